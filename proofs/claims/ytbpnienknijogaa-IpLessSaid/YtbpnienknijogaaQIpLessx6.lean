-- written by myprint.py, a program of this session's over the kit's printer
import Derived.Test.YtbpnienknijogaaQIpLessx0
import Derived.Test.YtbpnienknijogaaQIpLessx1
import Derived.Test.YtbpnienknijogaaQIpLessx2
import Derived.Test.YtbpnienknijogaaQIpLessx3
import Derived.Test.YtbpnienknijogaaQIpLessx4
import Derived.Test.YtbpnienknijogaaQIpLessx5
namespace Go.Proofs.Ytbpnienknijogaa.QIpLess
open Go.RowKit Go.Proofs.YtbpnienknijogaaW.PrintWords Go.Proofs.YtbpnienknijogaaW.PrintLast Go.Proofs.YtbpnienknijogaaW.PrintMore
attribute [local go_sem] max2_int min2_int max_two min_two max_three min_three max_four min_four   -- for this text's walks alone
set_option linter.unusedVariables false
set_option linter.unusedSimpArgs false

/-! ### castellanlaw4_known: function 29 -/
def castellanlaw4_known.f (k : Nat)  : Option (Bool) := (ip_Build.f k 0 0 false false 0 5 0 0 0 ([] : List Int) ([] : List Int)).bind fun bt212 => ((ip_Parse.f k bt212.1).bind fun bt216 => (if bt212.2 = 0 then (if (bt212.1.length : Int) = 20 then (if bt216.2.2.2.2.2.2.2.2.2.2.2 = 0 then (some (bt216.2.2.2.2.2.1 == 5)) else (some false)) else (some false)) else (some false)))
theorem castellanlaw4_known.mono : ∀ k, LeO (castellanlaw4_known.f k ) (castellanlaw4_known.f (k + 1) ) := by
  intro  k
  unfold castellanlaw4_known.f
  repeat' first
      | (with_reducible exact ip_Build.mono _ _ _ _ _ _ _ _ _ _ _ _)
      | (with_reducible exact ip_Parse.mono _ _)
      | (with_reducible exact LeO.refl _)
      | (with_reducible exact LeO.none _)
      | (with_reducible refine LeO.ite ?_ ?_)
      | (with_reducible refine LeO.bind ?_ (fun _ => ?_))
      | exact ip_Build.mono _ _ _ _ _ _ _ _ _ _ _ _
      | exact ip_Parse.mono _ _
      | exact LeO.none _
      | refine LeO.ite ?_ ?_
      | refine LeO.bind ?_ (fun _ => ?_)
set_option maxHeartbeats 8000000 in
set_option maxRecDepth 100000 in
theorem castellanlaw4_known.calls (k : Nat)  (r : Bool) (w : World) (h : castellanlaw4_known.f k  = some r) :
    Calls Try.prog 29 #[] w fun e w' => e = .returned (.bool r) ∧ Below w.heap.size w w' := by
  have hu45 := Try.underlying45
  have HB := Aside0.mk (Below.refl w.heap.size w)
  have H : ((ip_Build.f k 0 0 false false 0 5 0 0 0 ([] : List Int) ([] : List Int)).bind fun bt212 => ((ip_Parse.f k bt212.1).bind fun bt216 => (if bt212.2 = 0 then (if (bt212.1.length : Int) = 20 then (if bt216.2.2.2.2.2.2.2.2.2.2.2 = 0 then (some (bt216.2.2.2.2.2.1 == 5)) else (some false)) else (some false)) else (some false)))) = some r := h
  clear h
  replace H := Option.bind_eq_some_iff.mp H
  obtain ⟨⟨t212, t215⟩, A10, H⟩ := H
  replace H : ((ip_Parse.f k t212).bind fun bt216 => (if t215 = 0 then (if (t212.length : Int) = 20 then (if bt216.2.2.2.2.2.2.2.2.2.2.2 = 0 then (some (bt216.2.2.2.2.2.1 == 5)) else (some false)) else (some false)) else (some false))) = some r := H
  have A1 := Aside0.mk A10
  clear A10
  replace H := Option.bind_eq_some_iff.mp H
  obtain ⟨⟨t216, t217, t218, t219, t220, t221, t222, t223, t224, t225, t228, t231⟩, A20, H⟩ := H
  replace H : (if t215 = 0 then (if (t212.length : Int) = 20 then (if t231 = 0 then (some (t221 == 5)) else (some false)) else (some false)) else (some false)) = some r := H
  have A2 := Aside0.mk A20
  clear A20
  by_cases c3 : t215 = 0
  · rw [if_pos c3] at H
    have c3b0 : (t215 == 0) = true := beq_iff_eq.mpr c3
    have c3b1 : (t215 != 0) = false := bne_eq_false_iff_eq.mpr c3
    clear c3
    by_cases c4 : (t212.length : Int) = 20
    · rw [if_pos c4] at H
      have c4b0 : ((t212.length : Int) == 20) = true := beq_iff_eq.mpr c4
      have c4b1 : ((t212.length : Int) != 20) = false := bne_eq_false_iff_eq.mpr c4
      clear c4
      by_cases c5 : t231 = 0
      · rw [if_pos c5] at H
        have c5b0 : (t231 == 0) = true := beq_iff_eq.mpr c5
        have c5b1 : (t231 != 0) = false := bne_eq_false_iff_eq.mpr c5
        clear c5
        obtain rfl := Option.some.inj H
        go_enter Try.func29, Try.ntmps29
        go_wp2_with (first | ((with_reducible refine gate_callee (f := 32) rfl ?_); refine goesL_ (some 7) rfl rfl Try.func32 (by kernel_rfl) rfl #[.agg #[.int .i64 0, .int .i64 0, .bool false, .bool false, .int .i64 0, .int .i64 5, .int .i64 0, .int .u32 0, .int .u32 0, .slice none 0 0, .slice none 0 0]] rfl (by (try simp only [List.map_toArray, List.map_cons, List.map_nil]); first | done | rfl | (simp only [List.length_drop, List.length_take]; rfl)) ?_; (refine (ip_Build.calls k 0 0 false false 0 5 0 0 0 (fun k_ => False) _ _ ([] : List Int) _ _ ([] : List Int) t212 t215 _ ?side1 ?side2 ?side3 A1.out).mono ?_); (case side1 => exact Kd.V_nil _ _ _ _ _); (case side2 => exact Kd.C_nil _ _); (case side3 => exact Nat.le_refl _); rintro e w6 ⟨v213, rfl, ho0, hb⟩; refine ⟨_, rfl, ?_⟩; have n0_ := Aside0.mk (Kd.R_lower (Kd.R_mono (ok' := fun k_ => True) ho0 (fun _ hk_ => trivial)) (below_size (by repeat (first | (with_reducible first | exact HB.out | apply below_alloc | apply pw_below_drewN | apply below_drew1) | exact HB.out)))); have n1_ := Aside0.mk (below_step (by repeat (first | (with_reducible first | exact HB.out | apply below_alloc | apply pw_below_drewN | apply below_drew1) | exact HB.out)) hb); clear HB; have HO214 := n0_; have HB := n1_; clear n0_ n1_; (try clear hb); (try clear hb2); (try clear hk); (try clear hi); (try clear ho0); obtain ⟨Ao7, co7, eo7⟩ := Kd.R_slice HO214.out; subst eo7) | ((with_reducible refine gate_callee (f := 24) rfl ?_); refine goesL_ (some 12) rfl rfl Try.func24 (by kernel_rfl) rfl #[.slice Ao7 t212.length co7] rfl (by (try simp only [List.map_toArray, List.map_cons, List.map_nil]); first | done | rfl | (simp only [List.length_drop, List.length_take]; rfl)) ?_; (with_reducible refine (ip_Parse.calls k _ _ t212 t216 t217 t218 t219 t220 t221 t222 t223 t224 t225 t228 t231 _ ?side1 ?side2 A2.out).mono ?_); (case side1 => repeat (first | exact (Kd.R_reads' HO214.out).2.2 | (with_reducible refine Kd.C_alloc ?_ _) | (with_reducible refine Kd.C_drewN ?_ _) | (with_reducible refine Kd.C_drew ?_))); (case side2 => exact (Kd.R_reads' HO214.out).2.1); rintro e w8 ⟨v226, v229, rfl, ho0, ho1, hb⟩; refine ⟨_, rfl, ?_⟩; have n0_ := Aside0.mk (Kd.R_mono (Kd.R_told (Kd.R_told (Kd.R_old (by (with_reducible repeat (first | apply Kd.R_alloc | apply Kd.R_drewN | apply Kd.R_drew)); exact HO214.out) hb) (Kd.R_base ho0)) (Kd.R_base ho1)) (fun _ h_ => h_.1)); have n1_ := Aside0.mk (Kd.R_lower (Kd.R_new' ho0 (Kd.R_lt (by (with_reducible repeat (first | apply Kd.R_alloc | apply Kd.R_drewN | apply Kd.R_drew)); exact HO214.out))) (below_size (by repeat (first | (with_reducible first | exact HB.out | apply below_alloc | apply pw_below_drewN | apply below_drew1) | exact HB.out)))); have n2_ := Aside0.mk (Kd.R_lower (Kd.R_new' ho1 (Kd.R_lt (by (with_reducible repeat (first | apply Kd.R_alloc | apply Kd.R_drewN | apply Kd.R_drew)); exact HO214.out))) (below_size (by repeat (first | (with_reducible first | exact HB.out | apply below_alloc | apply pw_below_drewN | apply below_drew1) | exact HB.out)))); have n3_ := Aside0.mk (below_step (by repeat (first | (with_reducible first | exact HB.out | apply below_alloc | apply pw_below_drewN | apply below_drew1) | exact HB.out)) hb); clear HO214; clear HB; have HO214 := n0_; have HO227 := n1_; have HO230 := n2_; have HB := n3_; clear n0_ n1_ n2_ n3_; (try clear hb); (try clear hb2); (try clear hk); (try clear hi); (try clear ho0); (try clear ho1)) | ((with_reducible refine gate_dst (N := 3) rfl ?_); (try (refine gate_guard (by rfl) ?_; dsimp only)); refine box_event ?hg (N := 3) ?hd (cs := #[.int .i64 0, .int .i64 0, .bool false, .bool false, .int .i64 0, .int .i64 0, .int .i64 0, .int .u32 0, .int .u32 0, .slice none 0 0, .slice none 0 0]) (t := 45) ?hr ?_; (case hd => rfl); (case hg => rfl); (case hr => first | (go_simp; done) | (go_simp; rfl)); intro gb232 hg w9 hbox hb; have n0_ := Aside0.mk (Kd.R_below (by (with_reducible repeat (first | apply Kd.R_alloc | apply Kd.R_drewN | apply Kd.R_drew)); exact HO214.out) hb); have n1_ := Aside0.mk (Kd.R_below (by (with_reducible repeat (first | apply Kd.R_alloc | apply Kd.R_drewN | apply Kd.R_drew)); exact HO227.out) hb); have n2_ := Aside0.mk (Kd.R_below (by (with_reducible repeat (first | apply Kd.R_alloc | apply Kd.R_drewN | apply Kd.R_drew)); exact HO230.out) hb); have n3_ := Aside0.mk (below_step (by repeat (first | (with_reducible first | exact HB.out | apply below_alloc | apply pw_below_drewN | apply below_drew1) | exact HB.out)) hb); have n4_ := Aside0.mk (hbox); have n5_ := Aside0.mk ((by rw [hg]; exact (below_size (by repeat (first | (with_reducible first | exact HB.out | apply below_alloc | apply pw_below_drewN | apply below_drew1) | exact HB.out))) : w.heap.size ≤ gb232)); have n6_ := Aside0.mk ((by rw [hg]; exact (below_size (by repeat (first | (with_reducible first | exact HB.out | apply below_alloc | apply pw_below_drewN | apply below_drew1) | exact HB.out))) : w.heap.size ≤ gb232)); clear HO214; clear HO227; clear HO230; clear HB; have HO214 := n0_; have HO227 := n1_; have HO230 := n2_; have HB := n3_; have BK232 := n4_; have GW232 := n5_; have GE232 := n6_; clear n0_ n1_ n2_ n3_ n4_ n5_ n6_; clear hb hbox hg; have hcz10_0 : w9.cell? ⟨gb232, 0, none⟩ = some (.int .i64 0) := (blk_cell BK232.out 0).trans rfl; have hcz10_1 : w9.cell? ⟨gb232, 1, none⟩ = some (.int .i64 0) := (blk_cell BK232.out 1).trans rfl; have hcz10_2 : w9.cell? ⟨gb232, 2, none⟩ = some (.bool false) := (blk_cell BK232.out 2).trans rfl; have hcz10_3 : w9.cell? ⟨gb232, 3, none⟩ = some (.bool false) := (blk_cell BK232.out 3).trans rfl; have hcz10_4 : w9.cell? ⟨gb232, 4, none⟩ = some (.int .i64 0) := (blk_cell BK232.out 4).trans rfl; have hcz10_5 : w9.cell? ⟨gb232, 5, none⟩ = some (.int .i64 0) := (blk_cell BK232.out 5).trans rfl; have hcz10_6 : w9.cell? ⟨gb232, 6, none⟩ = some (.int .i64 0) := (blk_cell BK232.out 6).trans rfl; have hcz10_7 : w9.cell? ⟨gb232, 7, none⟩ = some (.int .u32 0) := (blk_cell BK232.out 7).trans rfl; have hcz10_8 : w9.cell? ⟨gb232, 8, none⟩ = some (.int .u32 0) := (blk_cell BK232.out 8).trans rfl; have hcz10_9 : w9.cell? ⟨gb232, 9, none⟩ = some (.slice none 0 0) := (blk_cell BK232.out 9).trans rfl; have hcz10_10 : w9.cell? ⟨gb232, 10, none⟩ = some (.slice none 0 0) := (blk_cell BK232.out 10).trans rfl; have hfz10_0 := blk_frozen BK232.out 0; have hfz10_1 := blk_frozen BK232.out 1; have hfz10_2 := blk_frozen BK232.out 2; have hfz10_3 := blk_frozen BK232.out 3; have hfz10_4 := blk_frozen BK232.out 4; have hfz10_5 := blk_frozen BK232.out 5; have hfz10_6 := blk_frozen BK232.out 6; have hfz10_7 := blk_frozen BK232.out 7; have hfz10_8 := blk_frozen BK232.out 8; have hfz10_9 := blk_frozen BK232.out 9; have hfz10_10 := blk_frozen BK232.out 10; obtain ⟨Ao11, co11, eo11⟩ := Kd.R_slice HO227.out; subst eo11; obtain ⟨Ao12, co12, eo12⟩ := Kd.R_slice HO230.out; subst eo12))
        go_ret
        exact ⟨by first | rfl | (simp [errW_none, errW_some] <;> rfl) | (simp [*, errW_none, errW_some] <;> rfl), by repeat (first | (with_reducible first | exact HB.out | apply below_alloc | apply pw_below_drewN | apply below_drew1 | refine below_set ?_ GE232.out) | exact HB.out)⟩
      · rw [if_neg c5] at H
        have c5b0 : (t231 == 0) = false := beq_eq_false_iff_ne.mpr c5
        have c5b1 : (t231 != 0) = true := bne_iff_ne.mpr c5
        obtain rfl := Option.some.inj H
        go_enter Try.func29, Try.ntmps29
        go_wp2_with (first | ((with_reducible refine gate_callee (f := 32) rfl ?_); refine goesL_ (some 7) rfl rfl Try.func32 (by kernel_rfl) rfl #[.agg #[.int .i64 0, .int .i64 0, .bool false, .bool false, .int .i64 0, .int .i64 5, .int .i64 0, .int .u32 0, .int .u32 0, .slice none 0 0, .slice none 0 0]] rfl (by (try simp only [List.map_toArray, List.map_cons, List.map_nil]); first | done | rfl | (simp only [List.length_drop, List.length_take]; rfl)) ?_; (refine (ip_Build.calls k 0 0 false false 0 5 0 0 0 (fun k_ => False) _ _ ([] : List Int) _ _ ([] : List Int) t212 t215 _ ?side1 ?side2 ?side3 A1.out).mono ?_); (case side1 => exact Kd.V_nil _ _ _ _ _); (case side2 => exact Kd.C_nil _ _); (case side3 => exact Nat.le_refl _); rintro e w13 ⟨v213, rfl, ho0, hb⟩; refine ⟨_, rfl, ?_⟩; have n0_ := Aside0.mk (Kd.R_lower (Kd.R_mono (ok' := fun k_ => True) ho0 (fun _ hk_ => trivial)) (below_size (by repeat (first | (with_reducible first | exact HB.out | apply below_alloc | apply pw_below_drewN | apply below_drew1) | exact HB.out)))); have n1_ := Aside0.mk (below_step (by repeat (first | (with_reducible first | exact HB.out | apply below_alloc | apply pw_below_drewN | apply below_drew1) | exact HB.out)) hb); clear HB; have HO214 := n0_; have HB := n1_; clear n0_ n1_; (try clear hb); (try clear hb2); (try clear hk); (try clear hi); (try clear ho0); obtain ⟨Ao14, co14, eo14⟩ := Kd.R_slice HO214.out; subst eo14) | ((with_reducible refine gate_callee (f := 24) rfl ?_); refine goesL_ (some 12) rfl rfl Try.func24 (by kernel_rfl) rfl #[.slice Ao14 t212.length co14] rfl (by (try simp only [List.map_toArray, List.map_cons, List.map_nil]); first | done | rfl | (simp only [List.length_drop, List.length_take]; rfl)) ?_; (with_reducible refine (ip_Parse.calls k _ _ t212 t216 t217 t218 t219 t220 t221 t222 t223 t224 t225 t228 t231 _ ?side1 ?side2 A2.out).mono ?_); (case side1 => repeat (first | exact (Kd.R_reads' HO214.out).2.2 | (with_reducible refine Kd.C_alloc ?_ _) | (with_reducible refine Kd.C_drewN ?_ _) | (with_reducible refine Kd.C_drew ?_))); (case side2 => exact (Kd.R_reads' HO214.out).2.1); rintro e w15 ⟨v226, v229, rfl, ho0, ho1, hb⟩; refine ⟨_, rfl, ?_⟩; have n0_ := Aside0.mk (Kd.R_mono (Kd.R_told (Kd.R_told (Kd.R_old (by (with_reducible repeat (first | apply Kd.R_alloc | apply Kd.R_drewN | apply Kd.R_drew)); exact HO214.out) hb) (Kd.R_base ho0)) (Kd.R_base ho1)) (fun _ h_ => h_.1)); have n1_ := Aside0.mk (Kd.R_lower (Kd.R_new' ho0 (Kd.R_lt (by (with_reducible repeat (first | apply Kd.R_alloc | apply Kd.R_drewN | apply Kd.R_drew)); exact HO214.out))) (below_size (by repeat (first | (with_reducible first | exact HB.out | apply below_alloc | apply pw_below_drewN | apply below_drew1) | exact HB.out)))); have n2_ := Aside0.mk (Kd.R_lower (Kd.R_new' ho1 (Kd.R_lt (by (with_reducible repeat (first | apply Kd.R_alloc | apply Kd.R_drewN | apply Kd.R_drew)); exact HO214.out))) (below_size (by repeat (first | (with_reducible first | exact HB.out | apply below_alloc | apply pw_below_drewN | apply below_drew1) | exact HB.out)))); have n3_ := Aside0.mk (below_step (by repeat (first | (with_reducible first | exact HB.out | apply below_alloc | apply pw_below_drewN | apply below_drew1) | exact HB.out)) hb); clear HO214; clear HB; have HO214 := n0_; have HO227 := n1_; have HO230 := n2_; have HB := n3_; clear n0_ n1_ n2_ n3_; (try clear hb); (try clear hb2); (try clear hk); (try clear hi); (try clear ho0); (try clear ho1)) | ((with_reducible refine gate_dst (N := 3) rfl ?_); (try (refine gate_guard (by rfl) ?_; dsimp only)); refine box_event ?hg (N := 3) ?hd (cs := #[.int .i64 0, .int .i64 0, .bool false, .bool false, .int .i64 0, .int .i64 0, .int .i64 0, .int .u32 0, .int .u32 0, .slice none 0 0, .slice none 0 0]) (t := 45) ?hr ?_; (case hd => rfl); (case hg => rfl); (case hr => first | (go_simp; done) | (go_simp; rfl)); intro gb232 hg w16 hbox hb; have n0_ := Aside0.mk (Kd.R_below (by (with_reducible repeat (first | apply Kd.R_alloc | apply Kd.R_drewN | apply Kd.R_drew)); exact HO214.out) hb); have n1_ := Aside0.mk (Kd.R_below (by (with_reducible repeat (first | apply Kd.R_alloc | apply Kd.R_drewN | apply Kd.R_drew)); exact HO227.out) hb); have n2_ := Aside0.mk (Kd.R_below (by (with_reducible repeat (first | apply Kd.R_alloc | apply Kd.R_drewN | apply Kd.R_drew)); exact HO230.out) hb); have n3_ := Aside0.mk (below_step (by repeat (first | (with_reducible first | exact HB.out | apply below_alloc | apply pw_below_drewN | apply below_drew1) | exact HB.out)) hb); have n4_ := Aside0.mk (hbox); have n5_ := Aside0.mk ((by rw [hg]; exact (below_size (by repeat (first | (with_reducible first | exact HB.out | apply below_alloc | apply pw_below_drewN | apply below_drew1) | exact HB.out))) : w.heap.size ≤ gb232)); have n6_ := Aside0.mk ((by rw [hg]; exact (below_size (by repeat (first | (with_reducible first | exact HB.out | apply below_alloc | apply pw_below_drewN | apply below_drew1) | exact HB.out))) : w.heap.size ≤ gb232)); clear HO214; clear HO227; clear HO230; clear HB; have HO214 := n0_; have HO227 := n1_; have HO230 := n2_; have HB := n3_; have BK232 := n4_; have GW232 := n5_; have GE232 := n6_; clear n0_ n1_ n2_ n3_ n4_ n5_ n6_; clear hb hbox hg; have hcz17_0 : w16.cell? ⟨gb232, 0, none⟩ = some (.int .i64 0) := (blk_cell BK232.out 0).trans rfl; have hcz17_1 : w16.cell? ⟨gb232, 1, none⟩ = some (.int .i64 0) := (blk_cell BK232.out 1).trans rfl; have hcz17_2 : w16.cell? ⟨gb232, 2, none⟩ = some (.bool false) := (blk_cell BK232.out 2).trans rfl; have hcz17_3 : w16.cell? ⟨gb232, 3, none⟩ = some (.bool false) := (blk_cell BK232.out 3).trans rfl; have hcz17_4 : w16.cell? ⟨gb232, 4, none⟩ = some (.int .i64 0) := (blk_cell BK232.out 4).trans rfl; have hcz17_5 : w16.cell? ⟨gb232, 5, none⟩ = some (.int .i64 0) := (blk_cell BK232.out 5).trans rfl; have hcz17_6 : w16.cell? ⟨gb232, 6, none⟩ = some (.int .i64 0) := (blk_cell BK232.out 6).trans rfl; have hcz17_7 : w16.cell? ⟨gb232, 7, none⟩ = some (.int .u32 0) := (blk_cell BK232.out 7).trans rfl; have hcz17_8 : w16.cell? ⟨gb232, 8, none⟩ = some (.int .u32 0) := (blk_cell BK232.out 8).trans rfl; have hcz17_9 : w16.cell? ⟨gb232, 9, none⟩ = some (.slice none 0 0) := (blk_cell BK232.out 9).trans rfl; have hcz17_10 : w16.cell? ⟨gb232, 10, none⟩ = some (.slice none 0 0) := (blk_cell BK232.out 10).trans rfl; have hfz17_0 := blk_frozen BK232.out 0; have hfz17_1 := blk_frozen BK232.out 1; have hfz17_2 := blk_frozen BK232.out 2; have hfz17_3 := blk_frozen BK232.out 3; have hfz17_4 := blk_frozen BK232.out 4; have hfz17_5 := blk_frozen BK232.out 5; have hfz17_6 := blk_frozen BK232.out 6; have hfz17_7 := blk_frozen BK232.out 7; have hfz17_8 := blk_frozen BK232.out 8; have hfz17_9 := blk_frozen BK232.out 9; have hfz17_10 := blk_frozen BK232.out 10; obtain ⟨Ao18, co18, eo18⟩ := Kd.R_slice HO227.out; subst eo18; obtain ⟨Ao19, co19, eo19⟩ := Kd.R_slice HO230.out; subst eo19))
        go_ret
        exact ⟨by first | rfl | (simp [errW_none, errW_some] <;> rfl) | (simp [*, errW_none, errW_some] <;> rfl), by repeat (first | (with_reducible first | exact HB.out | apply below_alloc | apply pw_below_drewN | apply below_drew1 | refine below_set ?_ GE232.out) | exact HB.out)⟩
    · rw [if_neg c4] at H
      have c4b0 : ((t212.length : Int) == 20) = false := beq_eq_false_iff_ne.mpr c4
      have c4b1 : ((t212.length : Int) != 20) = true := bne_iff_ne.mpr c4
      obtain rfl := Option.some.inj H
      go_enter Try.func29, Try.ntmps29
      go_wp2_with (first | ((with_reducible refine gate_callee (f := 32) rfl ?_); refine goesL_ (some 7) rfl rfl Try.func32 (by kernel_rfl) rfl #[.agg #[.int .i64 0, .int .i64 0, .bool false, .bool false, .int .i64 0, .int .i64 5, .int .i64 0, .int .u32 0, .int .u32 0, .slice none 0 0, .slice none 0 0]] rfl (by (try simp only [List.map_toArray, List.map_cons, List.map_nil]); first | done | rfl | (simp only [List.length_drop, List.length_take]; rfl)) ?_; (refine (ip_Build.calls k 0 0 false false 0 5 0 0 0 (fun k_ => False) _ _ ([] : List Int) _ _ ([] : List Int) t212 t215 _ ?side1 ?side2 ?side3 A1.out).mono ?_); (case side1 => exact Kd.V_nil _ _ _ _ _); (case side2 => exact Kd.C_nil _ _); (case side3 => exact Nat.le_refl _); rintro e w20 ⟨v213, rfl, ho0, hb⟩; refine ⟨_, rfl, ?_⟩; have n0_ := Aside0.mk (Kd.R_lower (Kd.R_mono (ok' := fun k_ => True) ho0 (fun _ hk_ => trivial)) (below_size (by repeat (first | (with_reducible first | exact HB.out | apply below_alloc | apply pw_below_drewN | apply below_drew1) | exact HB.out)))); have n1_ := Aside0.mk (below_step (by repeat (first | (with_reducible first | exact HB.out | apply below_alloc | apply pw_below_drewN | apply below_drew1) | exact HB.out)) hb); clear HB; have HO214 := n0_; have HB := n1_; clear n0_ n1_; (try clear hb); (try clear hb2); (try clear hk); (try clear hi); (try clear ho0); obtain ⟨Ao21, co21, eo21⟩ := Kd.R_slice HO214.out; subst eo21) | ((with_reducible refine gate_callee (f := 24) rfl ?_); refine goesL_ (some 12) rfl rfl Try.func24 (by kernel_rfl) rfl #[.slice Ao21 t212.length co21] rfl (by (try simp only [List.map_toArray, List.map_cons, List.map_nil]); first | done | rfl | (simp only [List.length_drop, List.length_take]; rfl)) ?_; (with_reducible refine (ip_Parse.calls k _ _ t212 t216 t217 t218 t219 t220 t221 t222 t223 t224 t225 t228 t231 _ ?side1 ?side2 A2.out).mono ?_); (case side1 => repeat (first | exact (Kd.R_reads' HO214.out).2.2 | (with_reducible refine Kd.C_alloc ?_ _) | (with_reducible refine Kd.C_drewN ?_ _) | (with_reducible refine Kd.C_drew ?_))); (case side2 => exact (Kd.R_reads' HO214.out).2.1); rintro e w22 ⟨v226, v229, rfl, ho0, ho1, hb⟩; refine ⟨_, rfl, ?_⟩; have n0_ := Aside0.mk (Kd.R_mono (Kd.R_told (Kd.R_told (Kd.R_old (by (with_reducible repeat (first | apply Kd.R_alloc | apply Kd.R_drewN | apply Kd.R_drew)); exact HO214.out) hb) (Kd.R_base ho0)) (Kd.R_base ho1)) (fun _ h_ => h_.1)); have n1_ := Aside0.mk (Kd.R_lower (Kd.R_new' ho0 (Kd.R_lt (by (with_reducible repeat (first | apply Kd.R_alloc | apply Kd.R_drewN | apply Kd.R_drew)); exact HO214.out))) (below_size (by repeat (first | (with_reducible first | exact HB.out | apply below_alloc | apply pw_below_drewN | apply below_drew1) | exact HB.out)))); have n2_ := Aside0.mk (Kd.R_lower (Kd.R_new' ho1 (Kd.R_lt (by (with_reducible repeat (first | apply Kd.R_alloc | apply Kd.R_drewN | apply Kd.R_drew)); exact HO214.out))) (below_size (by repeat (first | (with_reducible first | exact HB.out | apply below_alloc | apply pw_below_drewN | apply below_drew1) | exact HB.out)))); have n3_ := Aside0.mk (below_step (by repeat (first | (with_reducible first | exact HB.out | apply below_alloc | apply pw_below_drewN | apply below_drew1) | exact HB.out)) hb); clear HO214; clear HB; have HO214 := n0_; have HO227 := n1_; have HO230 := n2_; have HB := n3_; clear n0_ n1_ n2_ n3_; (try clear hb); (try clear hb2); (try clear hk); (try clear hi); (try clear ho0); (try clear ho1)) | ((with_reducible refine gate_dst (N := 3) rfl ?_); (try (refine gate_guard (by rfl) ?_; dsimp only)); refine box_event ?hg (N := 3) ?hd (cs := #[.int .i64 0, .int .i64 0, .bool false, .bool false, .int .i64 0, .int .i64 0, .int .i64 0, .int .u32 0, .int .u32 0, .slice none 0 0, .slice none 0 0]) (t := 45) ?hr ?_; (case hd => rfl); (case hg => rfl); (case hr => first | (go_simp; done) | (go_simp; rfl)); intro gb232 hg w23 hbox hb; have n0_ := Aside0.mk (Kd.R_below (by (with_reducible repeat (first | apply Kd.R_alloc | apply Kd.R_drewN | apply Kd.R_drew)); exact HO214.out) hb); have n1_ := Aside0.mk (Kd.R_below (by (with_reducible repeat (first | apply Kd.R_alloc | apply Kd.R_drewN | apply Kd.R_drew)); exact HO227.out) hb); have n2_ := Aside0.mk (Kd.R_below (by (with_reducible repeat (first | apply Kd.R_alloc | apply Kd.R_drewN | apply Kd.R_drew)); exact HO230.out) hb); have n3_ := Aside0.mk (below_step (by repeat (first | (with_reducible first | exact HB.out | apply below_alloc | apply pw_below_drewN | apply below_drew1) | exact HB.out)) hb); have n4_ := Aside0.mk (hbox); have n5_ := Aside0.mk ((by rw [hg]; exact (below_size (by repeat (first | (with_reducible first | exact HB.out | apply below_alloc | apply pw_below_drewN | apply below_drew1) | exact HB.out))) : w.heap.size ≤ gb232)); have n6_ := Aside0.mk ((by rw [hg]; exact (below_size (by repeat (first | (with_reducible first | exact HB.out | apply below_alloc | apply pw_below_drewN | apply below_drew1) | exact HB.out))) : w.heap.size ≤ gb232)); clear HO214; clear HO227; clear HO230; clear HB; have HO214 := n0_; have HO227 := n1_; have HO230 := n2_; have HB := n3_; have BK232 := n4_; have GW232 := n5_; have GE232 := n6_; clear n0_ n1_ n2_ n3_ n4_ n5_ n6_; clear hb hbox hg; have hcz24_0 : w23.cell? ⟨gb232, 0, none⟩ = some (.int .i64 0) := (blk_cell BK232.out 0).trans rfl; have hcz24_1 : w23.cell? ⟨gb232, 1, none⟩ = some (.int .i64 0) := (blk_cell BK232.out 1).trans rfl; have hcz24_2 : w23.cell? ⟨gb232, 2, none⟩ = some (.bool false) := (blk_cell BK232.out 2).trans rfl; have hcz24_3 : w23.cell? ⟨gb232, 3, none⟩ = some (.bool false) := (blk_cell BK232.out 3).trans rfl; have hcz24_4 : w23.cell? ⟨gb232, 4, none⟩ = some (.int .i64 0) := (blk_cell BK232.out 4).trans rfl; have hcz24_5 : w23.cell? ⟨gb232, 5, none⟩ = some (.int .i64 0) := (blk_cell BK232.out 5).trans rfl; have hcz24_6 : w23.cell? ⟨gb232, 6, none⟩ = some (.int .i64 0) := (blk_cell BK232.out 6).trans rfl; have hcz24_7 : w23.cell? ⟨gb232, 7, none⟩ = some (.int .u32 0) := (blk_cell BK232.out 7).trans rfl; have hcz24_8 : w23.cell? ⟨gb232, 8, none⟩ = some (.int .u32 0) := (blk_cell BK232.out 8).trans rfl; have hcz24_9 : w23.cell? ⟨gb232, 9, none⟩ = some (.slice none 0 0) := (blk_cell BK232.out 9).trans rfl; have hcz24_10 : w23.cell? ⟨gb232, 10, none⟩ = some (.slice none 0 0) := (blk_cell BK232.out 10).trans rfl; have hfz24_0 := blk_frozen BK232.out 0; have hfz24_1 := blk_frozen BK232.out 1; have hfz24_2 := blk_frozen BK232.out 2; have hfz24_3 := blk_frozen BK232.out 3; have hfz24_4 := blk_frozen BK232.out 4; have hfz24_5 := blk_frozen BK232.out 5; have hfz24_6 := blk_frozen BK232.out 6; have hfz24_7 := blk_frozen BK232.out 7; have hfz24_8 := blk_frozen BK232.out 8; have hfz24_9 := blk_frozen BK232.out 9; have hfz24_10 := blk_frozen BK232.out 10; obtain ⟨Ao25, co25, eo25⟩ := Kd.R_slice HO227.out; subst eo25; obtain ⟨Ao26, co26, eo26⟩ := Kd.R_slice HO230.out; subst eo26))
      go_ret
      exact ⟨by first | rfl | (simp [errW_none, errW_some] <;> rfl) | (simp [*, errW_none, errW_some] <;> rfl), by repeat (first | (with_reducible first | exact HB.out | apply below_alloc | apply pw_below_drewN | apply below_drew1 | refine below_set ?_ GE232.out) | exact HB.out)⟩
  · rw [if_neg c3] at H
    have c3b0 : (t215 == 0) = false := beq_eq_false_iff_ne.mpr c3
    have c3b1 : (t215 != 0) = true := bne_iff_ne.mpr c3
    obtain rfl := Option.some.inj H
    go_enter Try.func29, Try.ntmps29
    go_wp2_with (first | ((with_reducible refine gate_callee (f := 32) rfl ?_); refine goesL_ (some 7) rfl rfl Try.func32 (by kernel_rfl) rfl #[.agg #[.int .i64 0, .int .i64 0, .bool false, .bool false, .int .i64 0, .int .i64 5, .int .i64 0, .int .u32 0, .int .u32 0, .slice none 0 0, .slice none 0 0]] rfl (by (try simp only [List.map_toArray, List.map_cons, List.map_nil]); first | done | rfl | (simp only [List.length_drop, List.length_take]; rfl)) ?_; (refine (ip_Build.calls k 0 0 false false 0 5 0 0 0 (fun k_ => False) _ _ ([] : List Int) _ _ ([] : List Int) t212 t215 _ ?side1 ?side2 ?side3 A1.out).mono ?_); (case side1 => exact Kd.V_nil _ _ _ _ _); (case side2 => exact Kd.C_nil _ _); (case side3 => exact Nat.le_refl _); rintro e w27 ⟨v213, rfl, ho0, hb⟩; refine ⟨_, rfl, ?_⟩; have n0_ := Aside0.mk (Kd.R_lower (Kd.R_mono (ok' := fun k_ => True) ho0 (fun _ hk_ => trivial)) (below_size (by repeat (first | (with_reducible first | exact HB.out | apply below_alloc | apply pw_below_drewN | apply below_drew1) | exact HB.out)))); have n1_ := Aside0.mk (below_step (by repeat (first | (with_reducible first | exact HB.out | apply below_alloc | apply pw_below_drewN | apply below_drew1) | exact HB.out)) hb); clear HB; have HO214 := n0_; have HB := n1_; clear n0_ n1_; (try clear hb); (try clear hb2); (try clear hk); (try clear hi); (try clear ho0); obtain ⟨Ao28, co28, eo28⟩ := Kd.R_slice HO214.out; subst eo28) | ((with_reducible refine gate_callee (f := 24) rfl ?_); refine goesL_ (some 12) rfl rfl Try.func24 (by kernel_rfl) rfl #[.slice Ao28 t212.length co28] rfl (by (try simp only [List.map_toArray, List.map_cons, List.map_nil]); first | done | rfl | (simp only [List.length_drop, List.length_take]; rfl)) ?_; (with_reducible refine (ip_Parse.calls k _ _ t212 t216 t217 t218 t219 t220 t221 t222 t223 t224 t225 t228 t231 _ ?side1 ?side2 A2.out).mono ?_); (case side1 => repeat (first | exact (Kd.R_reads' HO214.out).2.2 | (with_reducible refine Kd.C_alloc ?_ _) | (with_reducible refine Kd.C_drewN ?_ _) | (with_reducible refine Kd.C_drew ?_))); (case side2 => exact (Kd.R_reads' HO214.out).2.1); rintro e w29 ⟨v226, v229, rfl, ho0, ho1, hb⟩; refine ⟨_, rfl, ?_⟩; have n0_ := Aside0.mk (Kd.R_mono (Kd.R_told (Kd.R_told (Kd.R_old (by (with_reducible repeat (first | apply Kd.R_alloc | apply Kd.R_drewN | apply Kd.R_drew)); exact HO214.out) hb) (Kd.R_base ho0)) (Kd.R_base ho1)) (fun _ h_ => h_.1)); have n1_ := Aside0.mk (Kd.R_lower (Kd.R_new' ho0 (Kd.R_lt (by (with_reducible repeat (first | apply Kd.R_alloc | apply Kd.R_drewN | apply Kd.R_drew)); exact HO214.out))) (below_size (by repeat (first | (with_reducible first | exact HB.out | apply below_alloc | apply pw_below_drewN | apply below_drew1) | exact HB.out)))); have n2_ := Aside0.mk (Kd.R_lower (Kd.R_new' ho1 (Kd.R_lt (by (with_reducible repeat (first | apply Kd.R_alloc | apply Kd.R_drewN | apply Kd.R_drew)); exact HO214.out))) (below_size (by repeat (first | (with_reducible first | exact HB.out | apply below_alloc | apply pw_below_drewN | apply below_drew1) | exact HB.out)))); have n3_ := Aside0.mk (below_step (by repeat (first | (with_reducible first | exact HB.out | apply below_alloc | apply pw_below_drewN | apply below_drew1) | exact HB.out)) hb); clear HO214; clear HB; have HO214 := n0_; have HO227 := n1_; have HO230 := n2_; have HB := n3_; clear n0_ n1_ n2_ n3_; (try clear hb); (try clear hb2); (try clear hk); (try clear hi); (try clear ho0); (try clear ho1)) | ((with_reducible refine gate_dst (N := 3) rfl ?_); (try (refine gate_guard (by rfl) ?_; dsimp only)); refine box_event ?hg (N := 3) ?hd (cs := #[.int .i64 0, .int .i64 0, .bool false, .bool false, .int .i64 0, .int .i64 0, .int .i64 0, .int .u32 0, .int .u32 0, .slice none 0 0, .slice none 0 0]) (t := 45) ?hr ?_; (case hd => rfl); (case hg => rfl); (case hr => first | (go_simp; done) | (go_simp; rfl)); intro gb232 hg w30 hbox hb; have n0_ := Aside0.mk (Kd.R_below (by (with_reducible repeat (first | apply Kd.R_alloc | apply Kd.R_drewN | apply Kd.R_drew)); exact HO214.out) hb); have n1_ := Aside0.mk (Kd.R_below (by (with_reducible repeat (first | apply Kd.R_alloc | apply Kd.R_drewN | apply Kd.R_drew)); exact HO227.out) hb); have n2_ := Aside0.mk (Kd.R_below (by (with_reducible repeat (first | apply Kd.R_alloc | apply Kd.R_drewN | apply Kd.R_drew)); exact HO230.out) hb); have n3_ := Aside0.mk (below_step (by repeat (first | (with_reducible first | exact HB.out | apply below_alloc | apply pw_below_drewN | apply below_drew1) | exact HB.out)) hb); have n4_ := Aside0.mk (hbox); have n5_ := Aside0.mk ((by rw [hg]; exact (below_size (by repeat (first | (with_reducible first | exact HB.out | apply below_alloc | apply pw_below_drewN | apply below_drew1) | exact HB.out))) : w.heap.size ≤ gb232)); have n6_ := Aside0.mk ((by rw [hg]; exact (below_size (by repeat (first | (with_reducible first | exact HB.out | apply below_alloc | apply pw_below_drewN | apply below_drew1) | exact HB.out))) : w.heap.size ≤ gb232)); clear HO214; clear HO227; clear HO230; clear HB; have HO214 := n0_; have HO227 := n1_; have HO230 := n2_; have HB := n3_; have BK232 := n4_; have GW232 := n5_; have GE232 := n6_; clear n0_ n1_ n2_ n3_ n4_ n5_ n6_; clear hb hbox hg; have hcz31_0 : w30.cell? ⟨gb232, 0, none⟩ = some (.int .i64 0) := (blk_cell BK232.out 0).trans rfl; have hcz31_1 : w30.cell? ⟨gb232, 1, none⟩ = some (.int .i64 0) := (blk_cell BK232.out 1).trans rfl; have hcz31_2 : w30.cell? ⟨gb232, 2, none⟩ = some (.bool false) := (blk_cell BK232.out 2).trans rfl; have hcz31_3 : w30.cell? ⟨gb232, 3, none⟩ = some (.bool false) := (blk_cell BK232.out 3).trans rfl; have hcz31_4 : w30.cell? ⟨gb232, 4, none⟩ = some (.int .i64 0) := (blk_cell BK232.out 4).trans rfl; have hcz31_5 : w30.cell? ⟨gb232, 5, none⟩ = some (.int .i64 0) := (blk_cell BK232.out 5).trans rfl; have hcz31_6 : w30.cell? ⟨gb232, 6, none⟩ = some (.int .i64 0) := (blk_cell BK232.out 6).trans rfl; have hcz31_7 : w30.cell? ⟨gb232, 7, none⟩ = some (.int .u32 0) := (blk_cell BK232.out 7).trans rfl; have hcz31_8 : w30.cell? ⟨gb232, 8, none⟩ = some (.int .u32 0) := (blk_cell BK232.out 8).trans rfl; have hcz31_9 : w30.cell? ⟨gb232, 9, none⟩ = some (.slice none 0 0) := (blk_cell BK232.out 9).trans rfl; have hcz31_10 : w30.cell? ⟨gb232, 10, none⟩ = some (.slice none 0 0) := (blk_cell BK232.out 10).trans rfl; have hfz31_0 := blk_frozen BK232.out 0; have hfz31_1 := blk_frozen BK232.out 1; have hfz31_2 := blk_frozen BK232.out 2; have hfz31_3 := blk_frozen BK232.out 3; have hfz31_4 := blk_frozen BK232.out 4; have hfz31_5 := blk_frozen BK232.out 5; have hfz31_6 := blk_frozen BK232.out 6; have hfz31_7 := blk_frozen BK232.out 7; have hfz31_8 := blk_frozen BK232.out 8; have hfz31_9 := blk_frozen BK232.out 9; have hfz31_10 := blk_frozen BK232.out 10; obtain ⟨Ao32, co32, eo32⟩ := Kd.R_slice HO227.out; subst eo32; obtain ⟨Ao33, co33, eo33⟩ := Kd.R_slice HO230.out; subst eo33))
    go_ret
    exact ⟨by first | rfl | (simp [errW_none, errW_some] <;> rfl) | (simp [*, errW_none, errW_some] <;> rfl), by repeat (first | (with_reducible first | exact HB.out | apply below_alloc | apply pw_below_drewN | apply below_drew1 | refine below_set ?_ GE232.out) | exact HB.out)⟩

/-! ### sum_Update: function 54 -/
def sum_Update.f (k : Nat) (a0 : Int) (a1 : Int) (a2 : Int) : Option (Int) := (sum_folded.f k (IntKind.u64.wrap ((IntKind.u64.wrap ((IntKind.u64.wrap (wrap64 (65535 - (Go.bits .and .i64 a0 65535)))) + (IntKind.u64.wrap (wrap64 (65535 - (Go.bits .and .i64 a1 65535)))))) + (IntKind.u64.wrap (Go.bits .and .i64 a2 65535))))).bind fun t233 => (some (wrap64 (IntKind.u64.wrap (65535 - t233))))
theorem sum_Update.mono : ∀ a0 a1 a2 k, LeO (sum_Update.f k a0 a1 a2) (sum_Update.f (k + 1) a0 a1 a2) := by
  intro a0 a1 a2 k
  unfold sum_Update.f
  repeat' first
      | (with_reducible exact sum_folded.mono _ _)
      | (with_reducible exact LeO.refl _)
      | (with_reducible exact LeO.none _)
      | (with_reducible refine LeO.ite ?_ ?_)
      | (with_reducible refine LeO.bind ?_ (fun _ => ?_))
      | exact sum_folded.mono _ _
      | exact LeO.none _
      | refine LeO.ite ?_ ?_
      | refine LeO.bind ?_ (fun _ => ?_)
set_option maxHeartbeats 8000000 in
set_option maxRecDepth 100000 in
theorem sum_Update.calls (k : Nat) (a0 : Int) (a1 : Int) (a2 : Int) (r : Int) (w : World) (h : sum_Update.f k a0 a1 a2 = some r) :
    Calls Try.prog 54 #[.int .i64 a0, .int .i64 a1, .int .i64 a2] w fun e w' => e = .returned (.int .i64 r) ∧ Drawn0 w w' := by
  have H : ((sum_folded.f k (IntKind.u64.wrap ((IntKind.u64.wrap ((IntKind.u64.wrap (wrap64 (65535 - (Go.bits .and .i64 a0 65535)))) + (IntKind.u64.wrap (wrap64 (65535 - (Go.bits .and .i64 a1 65535)))))) + (IntKind.u64.wrap (Go.bits .and .i64 a2 65535))))).bind fun t233 => (some (wrap64 (IntKind.u64.wrap (65535 - t233))))) = some r := h
  clear h
  replace H := Option.bind_eq_some_iff.mp H
  obtain ⟨t233, A40, H⟩ := H
  replace H : (some (wrap64 (IntKind.u64.wrap (65535 - t233)))) = some r := H
  have A4 := Aside0.mk A40
  clear A40
  obtain rfl := Option.some.inj H
  go_enter Try.func54, Try.ntmps54
  go_wp2_with (first | ((with_reducible refine gate_callee (f := 57) rfl ?_); refine goesL_ (some 20) rfl rfl Try.func57 (by kernel_rfl) rfl #[.int .u64 (IntKind.u64.wrap ((IntKind.u64.wrap ((IntKind.u64.wrap (wrap64 (65535 - (Go.bits .and .i64 a0 65535)))) + (IntKind.u64.wrap (wrap64 (65535 - (Go.bits .and .i64 a1 65535)))))) + (IntKind.u64.wrap (Go.bits .and .i64 a2 65535))))] rfl (by (try simp only [List.map_toArray, List.map_cons, List.map_nil]); first | done | rfl | (simp only [List.length_drop, List.length_take]; rfl)) ?_; (with_reducible refine (sum_folded.calls k (IntKind.u64.wrap ((IntKind.u64.wrap ((IntKind.u64.wrap (wrap64 (65535 - (Go.bits .and .i64 a0 65535)))) + (IntKind.u64.wrap (wrap64 (65535 - (Go.bits .and .i64 a1 65535)))))) + (IntKind.u64.wrap (Go.bits .and .i64 a2 65535)))) t233 _ A4.out).mono ?_); rintro e w' ⟨rfl, ⟨nd, rfl⟩⟩; refine ⟨_, rfl, ?_⟩))
  go_ret
  exact ⟨by first | rfl | (simp; done) | (simp [*]; done), by repeat (first | exact Drawn0.refl _ | apply Drawn0.step)⟩

/-! ### ip_Less: function 35 -/
def ip_Less.j0 : Nat → List Int → Bool → Option (List Int)
  | 0, _, _ => none
  | k + 1, x0, x12 => if x12 = true then (some ([] : List Int)) else ((word_Get16.f x0 2).bind fun t236 => (if 0 ≤ t236 then (if t236 ≤ (x0.length : Int) then ((bytes_Clone.f (x0.take (t236 : Int).toNat)).bind fun t238 => (if 8 < (t238.length : Int) then ((some (t238.set (8 : Int).toNat (((rd t238 8) - 1) % 256) : List Int)).bind fun y242 => ((word_Get16.f x0 10).bind fun t243 => ((word_Get16.f x0 8).bind fun t244 => ((word_Get16.f y242 8).bind fun t245 => ((sum_Update.f k t243 t244 t245).bind fun t246 => ((word_Put16.f t246).bind fun t247 => (if 0 < (t247.length : Int) then (if 10 < (t238.length : Int) then (if 1 < (t247.length : Int) then (if 11 < (t238.length : Int) then (some ((y242.set (10 : Int).toNat (rd t247 0)).set (11 : Int).toNat (rd t247 1))) else (none)) else (none)) else (none)) else (none)))))))) else (none))) else (none)) else (none)))
def ip_Less.f (k : Nat) (l0 : List Int) : Option (List Int) := (ip_looked.f k l0).bind fun t234 => (if t234 = 0 then (if 8 < (l0.length : Int) then (ip_Less.j0 k l0 ((rd l0 8) == 0)) else (none)) else (ip_Less.j0 k l0 true))
theorem ip_Less.mono_l : ∀ k, (∀ y0 y1, LeO (ip_Less.j0 k y0 y1) (ip_Less.j0 (k + 1) y0 y1))
  | 0 => fun _ _ r h => by simp [ip_Less.j0] at h
  | k + 1 => by
    have ih0 := ip_Less.mono_l k
    · intro y0 y1
      unfold ip_Less.j0
      repeat' first
      | (with_reducible exact ih0 _ _)
      | (with_reducible exact ip_looked.mono _ _)
      | (with_reducible exact sum_Update.mono _ _ _ _)
      | (with_reducible exact LeO.refl _)
      | (with_reducible exact LeO.none _)
      | (with_reducible refine LeO.ite ?_ ?_)
      | (with_reducible refine LeO.bind ?_ (fun _ => ?_))
      | exact ih0 _ _
      | exact ip_looked.mono _ _
      | exact sum_Update.mono _ _ _ _
      | exact LeO.none _
      | refine LeO.ite ?_ ?_
      | refine LeO.bind ?_ (fun _ => ?_)
theorem ip_Less.mono : ∀ a0 k, LeO (ip_Less.f k a0) (ip_Less.f (k + 1) a0) := by
  intro a0 k
  have ih0 := ip_Less.mono_l k
  unfold ip_Less.f
  repeat' first
      | (with_reducible exact ih0 _ _)
      | (with_reducible exact ip_looked.mono _ _)
      | (with_reducible exact sum_Update.mono _ _ _ _)
      | (with_reducible exact LeO.refl _)
      | (with_reducible exact LeO.none _)
      | (with_reducible refine LeO.ite ?_ ?_)
      | (with_reducible refine LeO.bind ?_ (fun _ => ?_))
      | exact ih0 _ _
      | exact ip_looked.mono _ _
      | exact sum_Update.mono _ _ _ _
      | exact LeO.none _
      | refine LeO.ite ?_ ?_
      | refine LeO.bind ?_ (fun _ => ?_)
set_option maxHeartbeats 8000000 in
set_option maxRecDepth 100000 in
theorem ip_Less.calls (k : Nat) (A0 : Option Addr) (c0 : Nat) (l0 : List Int) (r : List Int) (w : World) (hr0 : Kd.C (Kd.int .u8) w A0 l0.length l0) (hc0 : l0.length ≤ c0) (h : ip_Less.f k l0 = some r) :
    Calls Try.prog 35 #[.slice A0 l0.length c0] w fun e w' => ∃ v0_ : Value, e = .returned (v0_) ∧ Kd.R (Kd.int .u8) 5 w' w.heap.size (fun _ => True) v0_ r ∧ Below w.heap.size w w' := by
  have HR0 := Aside0.mk hr0
  have HC0 := Aside0.mk hc0
  clear hr0 hc0
  have HB := Aside0.mk (Below.refl w.heap.size w)
  have H : ((ip_looked.f k l0).bind fun t234 => (if t234 = 0 then (if 8 < (l0.length : Int) then (ip_Less.j0 k l0 ((rd l0 8) == 0)) else (none)) else (ip_Less.j0 k l0 true))) = some r := h
  clear h
  have HC2 := Aside0.mk H
  clear H
  go_enter Try.func35, Try.ntmps35
  go_upto_region 1 with (fail)
  go_cut [12] (fun v12 wc => ∃ (kq : Nat) (x12_1 : Bool), v12 = .bool x12_1 ∧ Aside0 (ip_Less.j0 kq l0 x12_1 = some r) ∧ Aside0 (kq ≤ k) ∧ Aside0 (Below w.heap.size w wc))
  case first =>
    have H := HC2.out
    clear HC2
    replace H := Option.bind_eq_some_iff.mp H
    obtain ⟨t234, A30, H⟩ := H
    replace H : (if t234 = 0 then (if 8 < (l0.length : Int) then (ip_Less.j0 k l0 ((rd l0 8) == 0)) else (none)) else (ip_Less.j0 k l0 true)) = some r := H
    have A3 := Aside0.mk A30
    clear A30
    by_cases c4 : t234 = 0
    · rw [if_pos c4] at H
      have c4b0 : (t234 == 0) = true := beq_iff_eq.mpr c4
      have c4b1 : (t234 != 0) = false := bne_eq_false_iff_eq.mpr c4
      clear c4
      (first | rw [c4b0] | (simp only [i64_w, i32_w]; rw [c4b0]) | skip)
      by_cases c5 : 8 < (l0.length : Int)
      · rw [if_pos c5] at H
        have c5b0 : decide (8 < (l0.length : Int)) = true := decide_eq_true c5
        have c5b1 : decide (8 < l0.length) = true := decide_eq_true (by omega)
        clear c5
        have H' := Aside0.mk H
        clear H
        go_wp2_with (first | ((with_reducible refine gate_callee (f := 48) rfl ?_); refine goesL_ (some 5) rfl rfl Try.func48 (by kernel_rfl) rfl #[.slice A0 l0.length c0] rfl (by (try simp only [List.map_toArray, List.map_cons, List.map_nil]); first | done | rfl | (simp only [List.length_drop, List.length_take]; rfl)) ?_; (with_reducible refine (ip_looked.calls k _ _ l0 t234 _ ?side1 ?side2 A3.out).mono ?_); (case side1 => repeat (first | exact (Kd.C_below HR0.out HB.out) | (with_reducible refine Kd.C_alloc ?_ _) | (with_reducible refine Kd.C_drewN ?_ _) | (with_reducible refine Kd.C_drew ?_))); (case side2 => exact HC0.out); rintro e w6 ⟨rfl, hb⟩; refine ⟨_, rfl, ?_⟩; have n0_ := Aside0.mk (below_step (by repeat (first | (with_reducible first | exact HB.out | apply below_alloc | apply pw_below_drewN | apply below_drew1) | exact HB.out)) hb); clear HB; have HB := n0_; clear n0_; (try clear hb); (try clear hb2); (try clear hk); (try clear hi); have p235 : 0 ≤ (8 : Int) := (by omega); have q235 : 8 < (l0.length : Int) := of_decide_eq_true (by first | (with_reducible assumption) | assumption); obtain ⟨ad235, e235, hx235_0⟩ := Kd.at_int HR0.out 8 p235 q235; cases e235; (try simp only [show (8 : Int).toNat = 8 from rfl, Nat.reduceMul, Nat.reduceEqDiff, Go.Addr.add, ↓reduceIte] at hx235_0); have qi235 : (8 < l0.length) = True := eq_true (by omega); (try rw [show ((8 : Int)).toNat = 8 from rfl] at hx235_0); replace hx235_0 := (HB.out.cell (World.block_lt_of_cell? w _ hx235_0)).trans hx235_0; replace p235 := eq_true p235; replace q235 := eq_true q235))
        go_meet
        case rel => exact ⟨_, (((rd l0 8) == 0)), (by first | rfl | (simp; done) | (simp [*]; done)), H', ⟨by first | omega | exact Nat.le_refl _⟩, ⟨by repeat (first | (with_reducible first | exact HB.out | apply below_alloc | apply pw_below_drewN | apply below_drew1) | exact HB.out)⟩⟩
      · rw [if_neg c5] at H
        exact absurd H (by simp)
    · rw [if_neg c4] at H
      have c4b0 : (t234 == 0) = false := beq_eq_false_iff_ne.mpr c4
      have c4b1 : (t234 != 0) = true := bne_iff_ne.mpr c4
      (first | rw [c4b0] | (simp only [i64_w, i32_w]; rw [c4b0]) | skip)
      have H' := Aside0.mk H
      clear H
      go_wp2_with (first | ((with_reducible refine gate_callee (f := 48) rfl ?_); refine goesL_ (some 5) rfl rfl Try.func48 (by kernel_rfl) rfl #[.slice A0 l0.length c0] rfl (by (try simp only [List.map_toArray, List.map_cons, List.map_nil]); first | done | rfl | (simp only [List.length_drop, List.length_take]; rfl)) ?_; (with_reducible refine (ip_looked.calls k _ _ l0 t234 _ ?side1 ?side2 A3.out).mono ?_); (case side1 => repeat (first | exact (Kd.C_below HR0.out HB.out) | (with_reducible refine Kd.C_alloc ?_ _) | (with_reducible refine Kd.C_drewN ?_ _) | (with_reducible refine Kd.C_drew ?_))); (case side2 => exact HC0.out); rintro e w7 ⟨rfl, hb⟩; refine ⟨_, rfl, ?_⟩; have n0_ := Aside0.mk (below_step (by repeat (first | (with_reducible first | exact HB.out | apply below_alloc | apply pw_below_drewN | apply below_drew1) | exact HB.out)) hb); clear HB; have HB := n0_; clear n0_; (try clear hb); (try clear hb2); (try clear hk); (try clear hi)))
      go_meet
      case rel => exact ⟨_, (true), (by first | rfl | (simp; done) | (simp [*]; done)), H', ⟨by first | omega | exact Nat.le_refl _⟩, ⟨by repeat (first | (with_reducible first | exact HB.out | apply below_alloc | apply pw_below_drewN | apply below_drew1) | exact HB.out)⟩⟩
  case rest =>
    clear HC2
    try clear p2
    try clear q2
    try clear hx2
    try clear qi2
    try clear c3
    try clear c4
    try clear c4b0
    try clear c4b1
    try clear c5
    try clear c5b0
    try clear c5b1
    try clear hx235_0
    try clear p235
    try clear q235
    obtain ⟨kq, x12_1, rfl, HA, HJ1, HB⟩ := hcut
    cases kq with
    | zero => exact absurd HA.out (by simp [ip_Less.j0])
    | succ kj1 =>
      have H := HA.out
      clear HA
      simp only [ip_Less.j0] at H
      by_cases c8 : x12_1 = true
      · subst c8
        have H1 : (some ([] : List Int)) = some r := by rw [if_pos rfl] at H; exact H
        clear H
        have H := H1
        clear H1
        obtain rfl := Option.some.inj H
        go_wp2
        go_ret
        exact ⟨_, by first | rfl | (simp [errW_none, errW_some] <;> rfl) | (simp [*, errW_none, errW_some] <;> rfl), by first | exact Kd.R_nil _ _ _ _ _ | exact Kd.N_nil _ _ _ _ _ | exact Kd.V_nil _ _ _ _ _ | exact Kd.Q_nil _ _ _ _ _ | exact Kd.S_nil _ _ _ _ _, by repeat (first | (with_reducible first | exact HB.out | apply below_alloc | apply pw_below_drewN | apply below_drew1) | exact HB.out)⟩
      · replace c8 := Bool.eq_false_iff.mpr c8
        subst c8
        have H1 : ((word_Get16.f l0 2).bind fun t236 => (if 0 ≤ t236 then (if t236 ≤ (l0.length : Int) then ((bytes_Clone.f (l0.take (t236 : Int).toNat)).bind fun t238 => (if 8 < (t238.length : Int) then ((some (t238.set (8 : Int).toNat (((rd t238 8) - 1) % 256) : List Int)).bind fun y242 => ((word_Get16.f l0 10).bind fun t243 => ((word_Get16.f l0 8).bind fun t244 => ((word_Get16.f y242 8).bind fun t245 => ((sum_Update.f kj1 t243 t244 t245).bind fun t246 => ((word_Put16.f t246).bind fun t247 => (if 0 < (t247.length : Int) then (if 10 < (t238.length : Int) then (if 1 < (t247.length : Int) then (if 11 < (t238.length : Int) then (some ((y242.set (10 : Int).toNat (rd t247 0)).set (11 : Int).toNat (rd t247 1))) else (none)) else (none)) else (none)) else (none)))))))) else (none))) else (none)) else (none))) = some r := by rw [if_neg (show ¬ (false = true) by decide)] at H; exact H
        clear H
        have H := H1
        clear H1
        replace H := Option.bind_eq_some_iff.mp H
        obtain ⟨t236, A90, H⟩ := H
        replace H : (if 0 ≤ t236 then (if t236 ≤ (l0.length : Int) then ((bytes_Clone.f (l0.take (t236 : Int).toNat)).bind fun t238 => (if 8 < (t238.length : Int) then ((some (t238.set (8 : Int).toNat (((rd t238 8) - 1) % 256) : List Int)).bind fun y242 => ((word_Get16.f l0 10).bind fun t243 => ((word_Get16.f l0 8).bind fun t244 => ((word_Get16.f y242 8).bind fun t245 => ((sum_Update.f kj1 t243 t244 t245).bind fun t246 => ((word_Put16.f t246).bind fun t247 => (if 0 < (t247.length : Int) then (if 10 < (t238.length : Int) then (if 1 < (t247.length : Int) then (if 11 < (t238.length : Int) then (some ((y242.set (10 : Int).toNat (rd t247 0)).set (11 : Int).toNat (rd t247 1))) else (none)) else (none)) else (none)) else (none)))))))) else (none))) else (none)) else (none)) = some r := H
        have A9 := Aside0.mk A90
        clear A90
        by_cases c10 : 0 ≤ t236
        · rw [if_pos c10] at H
          have c10b0 := eq_true c10
          have c10b1 : decide (0 ≤ t236) = true := decide_eq_true c10
          clear c10
          by_cases c11 : t236 ≤ (l0.length : Int)
          · rw [if_pos c11] at H
            have c11b0 := eq_true c11
            have c11b1 : decide (t236 ≤ (l0.length : Int)) = true := decide_eq_true c11
            clear c11
            replace H := Option.bind_eq_some_iff.mp H
            obtain ⟨t238, A120, H⟩ := H
            replace H : (if 8 < (t238.length : Int) then ((some (t238.set (8 : Int).toNat (((rd t238 8) - 1) % 256) : List Int)).bind fun y242 => ((word_Get16.f l0 10).bind fun t243 => ((word_Get16.f l0 8).bind fun t244 => ((word_Get16.f y242 8).bind fun t245 => ((sum_Update.f kj1 t243 t244 t245).bind fun t246 => ((word_Put16.f t246).bind fun t247 => (if 0 < (t247.length : Int) then (if 10 < (t238.length : Int) then (if 1 < (t247.length : Int) then (if 11 < (t238.length : Int) then (some ((y242.set (10 : Int).toNat (rd t247 0)).set (11 : Int).toNat (rd t247 1))) else (none)) else (none)) else (none)) else (none)))))))) else (none)) = some r := H
            have A12 := Aside0.mk A120
            clear A120
            by_cases c13 : 8 < (t238.length : Int)
            · rw [if_pos c13] at H
              have c13b0 : decide (8 < (t238.length : Int)) = true := decide_eq_true c13
              have c13b1 : decide (8 < t238.length) = true := decide_eq_true (by omega)
              clear c13
              obtain ⟨y242, hy242⟩ : ∃ y_ : List Int, y_ = (t238.set (8 : Int).toNat (((rd t238 8) - 1) % 256)) := ⟨_, rfl⟩
              replace H : ((word_Get16.f l0 10).bind fun t243 => ((word_Get16.f l0 8).bind fun t244 => ((word_Get16.f y242 8).bind fun t245 => ((sum_Update.f kj1 t243 t244 t245).bind fun t246 => ((word_Put16.f t246).bind fun t247 => (if 0 < (t247.length : Int) then (if 10 < (t238.length : Int) then (if 1 < (t247.length : Int) then (if 11 < (t238.length : Int) then (some ((y242.set (10 : Int).toNat (rd t247 0)).set (11 : Int).toNat (rd t247 1))) else (none)) else (none)) else (none)) else (none))))))) = some r := by first | (rw [hy242]; with_reducible exact H) | (have H2_ := (Option.bind_some _ _).symm.trans H; rw [hy242]; with_reducible exact H2_) | (have H2_ := (Option.bind_some _ _).symm.trans H; with_reducible exact H2_) | with_reducible exact H | (rw [hy242]; exact H) | exact H
              have Ny242 := Aside0.mk hy242
              clear hy242
              replace H := Option.bind_eq_some_iff.mp H
              obtain ⟨t243, A150, H⟩ := H
              replace H : ((word_Get16.f l0 8).bind fun t244 => ((word_Get16.f y242 8).bind fun t245 => ((sum_Update.f kj1 t243 t244 t245).bind fun t246 => ((word_Put16.f t246).bind fun t247 => (if 0 < (t247.length : Int) then (if 10 < (t238.length : Int) then (if 1 < (t247.length : Int) then (if 11 < (t238.length : Int) then (some ((y242.set (10 : Int).toNat (rd t247 0)).set (11 : Int).toNat (rd t247 1))) else (none)) else (none)) else (none)) else (none)))))) = some r := H
              have A15 := Aside0.mk A150
              clear A150
              replace H := Option.bind_eq_some_iff.mp H
              obtain ⟨t244, A160, H⟩ := H
              replace H : ((word_Get16.f y242 8).bind fun t245 => ((sum_Update.f kj1 t243 t244 t245).bind fun t246 => ((word_Put16.f t246).bind fun t247 => (if 0 < (t247.length : Int) then (if 10 < (t238.length : Int) then (if 1 < (t247.length : Int) then (if 11 < (t238.length : Int) then (some ((y242.set (10 : Int).toNat (rd t247 0)).set (11 : Int).toNat (rd t247 1))) else (none)) else (none)) else (none)) else (none))))) = some r := H
              have A16 := Aside0.mk A160
              clear A160
              replace H := Option.bind_eq_some_iff.mp H
              obtain ⟨t245, A170, H⟩ := H
              replace H : ((sum_Update.f kj1 t243 t244 t245).bind fun t246 => ((word_Put16.f t246).bind fun t247 => (if 0 < (t247.length : Int) then (if 10 < (t238.length : Int) then (if 1 < (t247.length : Int) then (if 11 < (t238.length : Int) then (some ((y242.set (10 : Int).toNat (rd t247 0)).set (11 : Int).toNat (rd t247 1))) else (none)) else (none)) else (none)) else (none)))) = some r := H
              have A17 := Aside0.mk A170
              clear A170
              replace H := Option.bind_eq_some_iff.mp H
              obtain ⟨t246, A180, H⟩ := H
              replace H : ((word_Put16.f t246).bind fun t247 => (if 0 < (t247.length : Int) then (if 10 < (t238.length : Int) then (if 1 < (t247.length : Int) then (if 11 < (t238.length : Int) then (some ((y242.set (10 : Int).toNat (rd t247 0)).set (11 : Int).toNat (rd t247 1))) else (none)) else (none)) else (none)) else (none))) = some r := H
              have A18 := Aside0.mk A180
              clear A180
              replace H := Option.bind_eq_some_iff.mp H
              obtain ⟨t247, A190, H⟩ := H
              replace H : (if 0 < (t247.length : Int) then (if 10 < (t238.length : Int) then (if 1 < (t247.length : Int) then (if 11 < (t238.length : Int) then (some ((y242.set (10 : Int).toNat (rd t247 0)).set (11 : Int).toNat (rd t247 1))) else (none)) else (none)) else (none)) else (none)) = some r := H
              have A19 := Aside0.mk A190
              clear A190
              by_cases c20 : 0 < (t247.length : Int)
              · rw [if_pos c20] at H
                have c20b0 : decide (0 < (t247.length : Int)) = true := decide_eq_true c20
                have c20b1 : decide (0 < t247.length) = true := decide_eq_true (by omega)
                clear c20
                by_cases c21 : 10 < (t238.length : Int)
                · rw [if_pos c21] at H
                  have c21b0 : decide (10 < (t238.length : Int)) = true := decide_eq_true c21
                  have c21b1 : decide (10 < t238.length) = true := decide_eq_true (by omega)
                  clear c21
                  obtain ⟨y251, hy251⟩ : ∃ y_ : List Int, y_ = (y242.set (10 : Int).toNat (rd t247 0)) := ⟨_, rfl⟩
                  replace H : (if 1 < (t247.length : Int) then (if 11 < (t238.length : Int) then (some (y251.set (11 : Int).toNat (rd t247 1))) else (none)) else (none)) = some r := by first | (rw [hy251]; with_reducible exact H) | (have H2_ := (Option.bind_some _ _).symm.trans H; rw [hy251]; with_reducible exact H2_) | (have H2_ := (Option.bind_some _ _).symm.trans H; with_reducible exact H2_) | with_reducible exact H | (rw [hy251]; exact H) | exact H
                  have Ny251 := Aside0.mk hy251
                  clear hy251
                  by_cases c23 : 1 < (t247.length : Int)
                  · rw [if_pos c23] at H
                    have c23b0 : decide (1 < (t247.length : Int)) = true := decide_eq_true c23
                    have c23b1 : decide (1 < t247.length) = true := decide_eq_true (by omega)
                    clear c23
                    by_cases c24 : 11 < (t238.length : Int)
                    · rw [if_pos c24] at H
                      have c24b0 : decide (11 < (t238.length : Int)) = true := decide_eq_true c24
                      have c24b1 : decide (11 < t238.length) = true := decide_eq_true (by omega)
                      clear c24
                      obtain ⟨y253, hy253⟩ : ∃ y_ : List Int, y_ = (y251.set (11 : Int).toNat (rd t247 1)) := ⟨_, rfl⟩
                      replace H : (some y253) = some r := by first | (rw [hy253]; with_reducible exact H) | (have H2_ := (Option.bind_some _ _).symm.trans H; rw [hy253]; with_reducible exact H2_) | (have H2_ := (Option.bind_some _ _).symm.trans H; with_reducible exact H2_) | with_reducible exact H | (rw [hy253]; exact H) | exact H
                      have Ny253 := Aside0.mk hy253
                      clear hy253
                      obtain rfl := Option.some.inj H
                      go_upto_region 5 with (first | ((with_reducible refine gate_callee (f := 41) rfl ?_); refine goesL_ (some 15) rfl rfl Try.func41 (by kernel_rfl) rfl #[.slice A0 l0.length c0, .int .i64 2] rfl (by (try simp only [List.map_toArray, List.map_cons, List.map_nil]); first | done | rfl | (simp only [List.length_drop, List.length_take]; rfl)) ?_; (with_reducible refine (word_Get16.calls _ _ l0 2 t236 _ ?side1 ?side2 A9.out).mono ?_); (case side1 => repeat (first | exact (Kd.C_below HR0.out HB.out) | (with_reducible refine Kd.C_alloc ?_ _) | (with_reducible refine Kd.C_drewN ?_ _) | (with_reducible refine Kd.C_drew ?_))); (case side2 => exact HC0.out); rintro e w' ⟨rfl, ⟨nd, rfl⟩⟩; refine ⟨_, rfl, ?_⟩; (try (rw [drewN_self wc]; generalize hq_ : World.drewN wc _ = wc; have n0_ : Aside0 (Below w.heap.size w wc) := ⟨by rw [← hq_]; exact (by repeat (first | (with_reducible first | exact HB.out | apply below_alloc | apply pw_below_drewN | apply below_drew1) | exact HB.out))⟩; clear HB hq_; have HB := n0_; clear n0_)); obtain ⟨i026, hi026, _, hsz26, _⟩ := info_parts info5; obtain ⟨hcut26, hA26, hC26⟩ := print_take_of (P := Try.prog) (Value.int .u8) 0 24 5 .i64 Try.underlying24 hi026 hsz26 A0 c0 l0 t236 (of_decide_eq_true (by first | (with_reducible assumption) | assumption)) (of_decide_eq_true (by first | (with_reducible assumption) | assumption)) HC0.out; have HR237 := Aside0.mk (Kd.C_of_reads (h1 := fun _ => rfl) (hA26 _ (Kd.reads_of_C HR0.out))); have HC237 := Aside0.mk hC26; clear hA26 hC26 hi026 hsz26) | ((with_reducible refine gate_callee (f := 42) rfl ?_); refine goesL_ (some 17) rfl rfl Try.func42 (by kernel_rfl) rfl #[.slice A0 (l0.take (t236 : Int).toNat).length c0] rfl (by (try simp only [List.map_toArray, List.map_cons, List.map_nil]); first | done | (rw [show (l0.take (t236 : Int).toNat).length = t236.toNat from (by rw [List.length_take]; have h_ : (t236 : Int) ≤ (l0.length : Int) := of_decide_eq_true (by first | (with_reducible assumption) | assumption); omega)] <;> rfl) | rfl | (simp only [List.length_drop, List.length_take]; rfl)) ?_; (with_reducible refine (bytes_Clone.calls _ _ (l0.take (t236 : Int).toNat) t238 _ ?side1 ?side2 A12.out).mono ?_); (case side1 => repeat (first | exact (Kd.C_below HR237.out HB.out) | (with_reducible refine Kd.C_alloc ?_ _) | (with_reducible refine Kd.C_drewN ?_ _) | (with_reducible refine Kd.C_drew ?_))); (case side2 => exact HC237.out); rintro e w27 ⟨v239, rfl, ho0, hb⟩; refine ⟨_, rfl, ?_⟩; have n0_ := Aside0.mk (Kd.R_lower ho0 (below_size (by repeat (first | (with_reducible first | exact HB.out | apply below_alloc | apply pw_below_drewN | apply below_drew1) | exact HB.out)))); have n1_ := Aside0.mk (below_step (by repeat (first | (with_reducible first | exact HB.out | apply below_alloc | apply pw_below_drewN | apply below_drew1) | exact HB.out)) hb); clear HB; have HO240 := n0_; have HB := n1_; clear n0_ n1_; (try clear hb); (try clear hb2); (try clear hk); (try clear hi); (try clear ho0); obtain ⟨Ao28, co28, eo28⟩ := Kd.R_slice HO240.out; subst eo28; have p241 : 0 ≤ (8 : Int) := (by omega); have q241 : 8 < (t238.length : Int) := of_decide_eq_true (by first | (with_reducible assumption) | assumption); obtain ⟨ad241, e241, hx241_0⟩ := Kd.at_int (Kd.R_reads' HO240.out).2.2 8 p241 q241; cases e241; (try simp only [show (8 : Int).toNat = 8 from rfl, Nat.reduceMul, Nat.reduceEqDiff, Go.Addr.add, ↓reduceIte] at hx241_0); have qi241 : (8 < t238.length) = True := eq_true (by omega); (try rw [show ((8 : Int)).toNat = 8 from rfl] at hx241_0); replace p241 := eq_true p241; replace q241 := eq_true q241; have p14 : 0 ≤ (8 : Int) := (by omega); have q14 : (8 : Int) < ((t238.length : Int) : Int) := of_decide_eq_true (by first | (with_reducible assumption) | assumption); have qi14 : (8 < t238.length) = True := eq_true (by omega); obtain ⟨go14, co14, eo14, gb14, gl14, cl14, HG14⟩ := Kd.R_form HO240.out (by omega); (first | cases eo14 | (injection eo14 with ea_ en_ ec_; (first | subst ea_ | (injection ea_ with ea_; subst ea_)); subst ec_; clear en_)); have GB14 := Aside0.mk gb14; have GG14 := Aside0.mk HG14; clear gb14 gl14 HG14; (first | simp only [add_plain] at hx241_0 | skip); obtain ⟨hx14_0, hf14_0⟩ := Kd.R_celln 0 HO240.out (8 : Int) p14 q14; (try rw [show ((8 : Int)).toNat = 8 from rfl] at hx14_0); (try simp only [Nat.reduceMul, Nat.zero_mul, Nat.zero_add, Nat.reduceAdd] at hx14_0); (try rw [show ((8 : Int)).toNat = 8 from rfl] at hf14_0); (try simp only [Nat.reduceMul, Nat.zero_mul, Nat.zero_add, Nat.reduceAdd] at hf14_0); replace p14 := eq_true p14; replace q14 := eq_true q14; obtain ⟨hy29_, hz29_⟩ := Kd.R_celln 0 HO240.out (8 : Int) (by omega) (of_decide_eq_true (by first | (with_reducible assumption) | assumption)); (try simp only [Int.reduceToNat, Int.toNat_zero, Int.toNat_ofNat, Nat.reduceMul, Nat.zero_mul, Nat.zero_add] at hy29_ hz29_); (try rw [show ((8 : Int)).toNat = 8 from rfl] at hy29_); (try rw [show ((8 : Int)).toNat = 8 from rfl] at hz29_); have HP29 := Kd.R_putg HO240.out (8 : Int) (((rd t238 8) - 1) % 256)) | ((with_reducible refine gate_store (t := 5) (p := 22) rfl ?_); refine store_event (t := 5) (p := 22) (v := ?vo_w30) (w1 := (w27.setCell ⟨go14, (8 : Int).toNat, none⟩ (.int .u8 (((rd t238 8) - 1) % 256)))) ?hg ?ho ?hn ?hr ?_; (case ho => rfl); (case hg => rfl); (case hn => rfl); (case hr => first | (go_simp; done) | (go_simp; rfl)); intro w30 hw; have hg : w27.grownBy w30 (some go14) := (by rw [hw]; exact HP29.2); have hp_ : Kd.R (Kd.int .u8) 5 w30 w.heap.size (fun _ => True) (.slice (some ⟨go14, 0, none⟩) t238.length co28) y242 := (by rw [hw, Ny242.out]; exact HP29.1); clear HP29; have n0_ := Aside0.mk (hp_); have n1_ := Aside0.mk ((by rw [hw]; exact below_set (HB.out) GB14.out : Below w.heap.size w w30)); clear HO240; clear HB; have HO240 := n0_; have HB := n1_; clear n0_ n1_; clear hg hw hp_))
                      have qL_ : (11 : Int) < (t238.length : Int) := of_decide_eq_true (by first | (with_reducible assumption) | assumption)
                      have n0_ := Aside0.mk (Kd.R_drew HO240.out)
                      have n1_ := Aside0.mk (below_drew1 HB.out)
                      clear HO240 HB
                      have HO240 := n0_
                      have HB := n1_
                      clear n0_ n1_
                      refine start_ (n := 11) (S := fun w' => True) (ds := []) #[false, false, false, false, false, false, false, false, false, false, false] (by kernel_rfl) rfl rfl trivial (fun hHeld => ?_)
                      generalize w30.drew = w30 at HO240 HB hHeld ⊢
                      have qs_ : (10 : Int) ≤ (t238.length : Int) := by omega
                      have qc_ : t238.length ≤ co28 := (Kd.R_reads' HO240.out).2.1
                      have qd_ : ¬ (co28 = 10) := by omega
                      have qe_ : ¬ (10 = co28) := by omega
                      have qf_ : ¬ (co28 ≤ 10) := by omega
                      have qg_ : (10 < co28) = True := eq_true (by omega)
                      have qh_ : ¬ (co28 - 10 = 0) := by omega
                      refine pure_ (i := 0) (N := some 23) (v := ?_) (a' := ?_) #[true, false, false, false, false, false, false, false, false, false, false] rfl rfl (by kernel_rfl) (fun _ _ _ h => h) (Or.inl ⟨by rfl, ?_⟩) ?_ ?_
                      rotate_left
                      · intro w'
                        go_simp
                        with_reducible rfl
                      rotate_left
                      · simp only [Act.put, List.setIfInBounds_toArray, List.set_cons_zero, List.set_cons_succ, i64_w, i32_w]
                        rfl
                      refine pure_ (i := 1) (N := some 24) (v := ?_) (a' := ?_) #[true, true, false, false, false, false, false, false, false, false, false] rfl rfl (by kernel_rfl) (fun _ _ _ h => h) (Or.inl ⟨by rfl, ?_⟩) ?_ ?_
                      rotate_left
                      · intro w'
                        go_simp
                        with_reducible rfl
                      rotate_left
                      · simp only [Act.put, List.setIfInBounds_toArray, List.set_cons_zero, List.set_cons_succ, i64_w, i32_w]
                        rfl
                      refine pure_ (i := 2) (N := some 25) (v := ?_) (a' := ?_) #[true, true, true, false, false, false, false, false, false, false, false] rfl rfl (by kernel_rfl) (fun _ _ _ h => h) (Or.inl ⟨by rfl, ?_⟩) ?_ ?_
                      rotate_left
                      · intro w'
                        go_simp
                        with_reducible rfl
                      rotate_left
                      · simp only [Act.put, List.setIfInBounds_toArray, List.set_cons_zero, List.set_cons_succ, i64_w, i32_w]
                        rfl
                      refine pure_ (i := 4) (N := some 27) (v := ?_) (a' := ?_) #[true, true, true, false, true, false, false, false, false, false, false] rfl rfl (by kernel_rfl) (fun _ _ _ h => h) (Or.inl ⟨by rfl, ?_⟩) ?_ ?_
                      rotate_left
                      · intro w'
                        go_simp
                        with_reducible rfl
                      rotate_left
                      · simp only [Act.put, List.setIfInBounds_toArray, List.set_cons_zero, List.set_cons_succ, i64_w, i32_w]
                        rfl
                      refine pure_ (i := 6) (N := some 29) (v := ?_) (a' := ?_) #[true, true, true, false, true, false, true, false, false, false, false] rfl rfl (by kernel_rfl) (fun _ _ _ h => h) (Or.inl ⟨by rfl, ?_⟩) ?_ ?_
                      rotate_left
                      · intro w'
                        go_simp
                        with_reducible rfl
                      rotate_left
                      · simp only [Act.put, List.setIfInBounds_toArray, List.set_cons_zero, List.set_cons_succ, i64_w, i32_w]
                        rfl
                      refine chain_ [3, 5, 7, 8, 9, 10] rfl (by kernel_rfl) (by kernel_rfl) ?_
                      simp only [List.filterMap_cons, List.filterMap_nil, List.getElem?_toArray, List.getElem?_cons_succ, List.getElem?_cons_zero]
                      ((with_reducible refine gate_callee (f := 41) rfl ?_); refine goesL_ (some 26) rfl rfl Try.func41 (by kernel_rfl) rfl #[.slice A0 l0.length c0, .int .i64 10] rfl (by (try simp only [List.map_toArray, List.map_cons, List.map_nil]); first | done | rfl | (simp only [List.length_drop, List.length_take]; rfl)) ?_; (with_reducible refine (word_Get16.calls _ _ l0 10 t243 _ ?side1 ?side2 A15.out).mono ?_); (case side1 => repeat (first | exact (Kd.C_below HR0.out HB.out) | (with_reducible refine Kd.C_alloc ?_ _) | (with_reducible refine Kd.C_drewN ?_ _) | (with_reducible refine Kd.C_drew ?_))); (case side2 => exact HC0.out); rintro e w' ⟨rfl, ⟨nd, rfl⟩⟩; refine ⟨_, rfl, ?_⟩; (try (rw [drewN_self w30]; generalize hq_ : World.drewN w30 _ = w30; have n0_ : Aside0 (Kd.R (Kd.int .u8) 5 w30 w.heap.size (fun _ => True) (.slice (some ⟨go14, 0, none⟩) t238.length co28) y242) := ⟨by rw [← hq_]; exact (by (with_reducible repeat (first | apply Kd.R_alloc | apply Kd.R_drewN | apply Kd.R_drew)); exact HO240.out)⟩; have n1_ : Aside0 (Below w.heap.size w w30) := ⟨by rw [← hq_]; exact (by repeat (first | (with_reducible first | exact HB.out | apply below_alloc | apply pw_below_drewN | apply below_drew1) | exact HB.out))⟩; clear HO240 HB hq_; have HO240 := n0_; have HB := n1_; clear n0_ n1_)))
                      (try simp only [Act.put, List.setIfInBounds_toArray, List.set_cons_zero, List.set_cons_succ])
                      ((with_reducible refine gate_callee (f := 41) rfl ?_); refine goesL_ (some 28) rfl rfl Try.func41 (by kernel_rfl) rfl #[.slice A0 l0.length c0, .int .i64 8] rfl (by (try simp only [List.map_toArray, List.map_cons, List.map_nil]); first | done | rfl | (simp only [List.length_drop, List.length_take]; rfl)) ?_; (with_reducible refine (word_Get16.calls _ _ l0 8 t244 _ ?side1 ?side2 A16.out).mono ?_); (case side1 => repeat (first | exact (Kd.C_below HR0.out HB.out) | (with_reducible refine Kd.C_alloc ?_ _) | (with_reducible refine Kd.C_drewN ?_ _) | (with_reducible refine Kd.C_drew ?_))); (case side2 => exact HC0.out); rintro e w' ⟨rfl, ⟨nd, rfl⟩⟩; refine ⟨_, rfl, ?_⟩; (try (rw [drewN_self w30]; generalize hq_ : World.drewN w30 _ = w30; have n0_ : Aside0 (Kd.R (Kd.int .u8) 5 w30 w.heap.size (fun _ => True) (.slice (some ⟨go14, 0, none⟩) t238.length co28) y242) := ⟨by rw [← hq_]; exact (by (with_reducible repeat (first | apply Kd.R_alloc | apply Kd.R_drewN | apply Kd.R_drew)); exact HO240.out)⟩; have n1_ : Aside0 (Below w.heap.size w w30) := ⟨by rw [← hq_]; exact (by repeat (first | (with_reducible first | exact HB.out | apply below_alloc | apply pw_below_drewN | apply below_drew1) | exact HB.out))⟩; clear HO240 HB hq_; have HO240 := n0_; have HB := n1_; clear n0_ n1_)))
                      (try simp only [Act.put, List.setIfInBounds_toArray, List.set_cons_zero, List.set_cons_succ])
                      ((with_reducible refine gate_callee (f := 41) rfl ?_); refine goesL_ (some 30) rfl rfl Try.func41 (by kernel_rfl) rfl #[.slice (some ⟨go14, 0, none⟩) y242.length co28, .int .i64 8] rfl (by (try simp only [List.map_toArray, List.map_cons, List.map_nil]); first | done | (rw [show y242.length = t238.length from (Kd.R_reads' HO240.out).1.symm] <;> rfl) | rfl | (simp only [List.length_drop, List.length_take]; rfl)) ?_; (with_reducible refine (word_Get16.calls _ _ y242 8 t245 _ ?side1 ?side2 A17.out).mono ?_); (case side1 => repeat (first | exact (Kd.R_reads' HO240.out).2.2 | (with_reducible refine Kd.C_alloc ?_ _) | (with_reducible refine Kd.C_drewN ?_ _) | (with_reducible refine Kd.C_drew ?_))); (case side2 => rw [show y242.length = t238.length from (Kd.R_reads' HO240.out).1.symm]; exact (Kd.R_reads' HO240.out).2.1); rintro e w' ⟨rfl, ⟨nd, rfl⟩⟩; refine ⟨_, rfl, ?_⟩; (try (rw [drewN_self w30]; generalize hq_ : World.drewN w30 _ = w30; have n0_ : Aside0 (Kd.R (Kd.int .u8) 5 w30 w.heap.size (fun _ => True) (.slice (some ⟨go14, 0, none⟩) t238.length co28) y242) := ⟨by rw [← hq_]; exact (by (with_reducible repeat (first | apply Kd.R_alloc | apply Kd.R_drewN | apply Kd.R_drew)); exact HO240.out)⟩; have n1_ : Aside0 (Below w.heap.size w w30) := ⟨by rw [← hq_]; exact (by repeat (first | (with_reducible first | exact HB.out | apply below_alloc | apply pw_below_drewN | apply below_drew1) | exact HB.out))⟩; clear HO240 HB hq_; have HO240 := n0_; have HB := n1_; clear n0_ n1_)))
                      (try simp only [Act.put, List.setIfInBounds_toArray, List.set_cons_zero, List.set_cons_succ])
                      ((with_reducible refine gate_callee (f := 54) rfl ?_); refine goesL_ (some 31) rfl rfl Try.func54 (by kernel_rfl) rfl #[.int .i64 t243, .int .i64 t244, .int .i64 t245] rfl (by (try simp only [List.map_toArray, List.map_cons, List.map_nil]); first | done | rfl | (simp only [List.length_drop, List.length_take]; rfl)) ?_; (with_reducible refine (sum_Update.calls kj1 t243 t244 t245 t246 _ A18.out).mono ?_); rintro e w' ⟨rfl, ⟨nd, rfl⟩⟩; refine ⟨_, rfl, ?_⟩; (try (rw [drewN_self w30]; generalize hq_ : World.drewN w30 _ = w30; have n0_ : Aside0 (Kd.R (Kd.int .u8) 5 w30 w.heap.size (fun _ => True) (.slice (some ⟨go14, 0, none⟩) t238.length co28) y242) := ⟨by rw [← hq_]; exact (by (with_reducible repeat (first | apply Kd.R_alloc | apply Kd.R_drewN | apply Kd.R_drew)); exact HO240.out)⟩; have n1_ : Aside0 (Below w.heap.size w w30) := ⟨by rw [← hq_]; exact (by repeat (first | (with_reducible first | exact HB.out | apply below_alloc | apply pw_below_drewN | apply below_drew1) | exact HB.out))⟩; clear HO240 HB hq_; have HO240 := n0_; have HB := n1_; clear n0_ n1_)))
                      (try simp only [Act.put, List.setIfInBounds_toArray, List.set_cons_zero, List.set_cons_succ])
                      ((with_reducible refine gate_callee (f := 38) rfl ?_); refine goesL_ (some 32) rfl rfl Try.func38 (by kernel_rfl) rfl #[.int .i64 t246] rfl (by (try simp only [List.map_toArray, List.map_cons, List.map_nil]); first | done | rfl | (simp only [List.length_drop, List.length_take]; rfl)) ?_; (with_reducible refine (word_Put16.calls t246 t247 _ A19.out).mono ?_); rintro e w31 ⟨v248, rfl, ho0, hb⟩; refine ⟨_, rfl, ?_⟩; have n0_ := Aside0.mk (Kd.R_elder' (by (with_reducible repeat (first | apply Kd.R_alloc | apply Kd.R_drewN | apply Kd.R_drew)); exact HO240.out) (Kd.R_base ho0) hb); have n1_ := Aside0.mk (Kd.R_lower (Kd.R_new' ho0 (Kd.R_lt (by (with_reducible repeat (first | apply Kd.R_alloc | apply Kd.R_drewN | apply Kd.R_drew)); exact HO240.out))) (below_size (by repeat (first | (with_reducible first | exact HB.out | apply below_alloc | apply pw_below_drewN | apply below_drew1) | exact HB.out)))); have n2_ := Aside0.mk (below_step (by repeat (first | (with_reducible first | exact HB.out | apply below_alloc | apply pw_below_drewN | apply below_drew1) | exact HB.out)) hb); clear HO240; clear HB; have HO240 := n0_; have HO249 := n1_; have HB := n2_; clear n0_ n1_ n2_; (try clear hb); (try clear hb2); (try clear hk); (try clear hi); (try clear ho0); obtain ⟨Ao32, co32, eo32⟩ := Kd.R_slice HO249.out; subst eo32; have p250 : 0 ≤ (0 : Int) := (by omega); have q250 : 0 < (t247.length : Int) := of_decide_eq_true (by first | (with_reducible assumption) | assumption); obtain ⟨ad250, e250, hx250_0⟩ := Kd.at_int (Kd.R_reads' HO249.out).2.2 0 p250 q250; cases e250; have qi250 : (0 < t247.length) = True := eq_true (by omega); (try rw [show ((0 : Int)).toNat = 0 from rfl] at hx250_0); (try rw [Addr.add_zero'] at hx250_0); replace p250 := eq_true p250; replace q250 := eq_true q250; have p22 : 0 ≤ (10 : Int) := (by omega); have q22 : (10 : Int) < ((t238.length : Int) : Int) := of_decide_eq_true (by first | (with_reducible assumption) | assumption); have qi22 : (10 < t238.length) = True := eq_true (by omega); obtain ⟨hx22_0, hf22_0⟩ := Kd.R_celln 0 HO240.out (10 : Int) p22 q22; (try rw [show ((10 : Int)).toNat = 10 from rfl] at hx22_0); (try simp only [Nat.reduceMul, Nat.zero_mul, Nat.zero_add, Nat.reduceAdd] at hx22_0); (try rw [show ((10 : Int)).toNat = 10 from rfl] at hf22_0); (try simp only [Nat.reduceMul, Nat.zero_mul, Nat.zero_add, Nat.reduceAdd] at hf22_0); replace p22 := eq_true p22; replace q22 := eq_true q22; have n_ := Aside0.mk (Kd.R_mono (ok' := (fun k_ => some k_ ≠ (.slice (some ad250) t247.length co32 : Value).ownBlock)) HO240.out (fun k_ hk => hk.2)); clear HO240; have HO240 := n_; clear n_; obtain ⟨hy33_, hz33_⟩ := Kd.R_celln 0 HO240.out (10 : Int) (by omega) (of_decide_eq_true (by first | (with_reducible assumption) | assumption)); (try simp only [Int.reduceToNat, Int.toNat_zero, Int.toNat_ofNat, Nat.reduceMul, Nat.zero_mul, Nat.zero_add] at hy33_ hz33_); (try rw [show ((10 : Int)).toNat = 10 from rfl] at hy33_); (try rw [show ((10 : Int)).toNat = 10 from rfl] at hz33_); have HP33 := Kd.R_putg HO240.out (10 : Int) (rd t247 0))
                      (try simp only [Act.put, List.setIfInBounds_toArray, List.set_cons_zero, List.set_cons_succ])
                      ((first | (with_reducible refine gate_builtin (b := .copy) (xs := #[.tmp 24, .tmp 32]) rfl ?_) | skip); refine R_copy2 w.heap.size rfl (.tmp 24) (.tmp 32) 24 5 rfl Try.underlying24 (by kernel_rfl) go14 _ _ 10 _ y242 t247 _ _ (t238.length - 10) (co28 - 10) ?hd ?hdn rfl HO240.out (Kd.R_reads' HO249.out).2.2 ?hys ?hat ?_; (case hd => rfl); (case hdn => omega); (case hys => (have h_ := A19.out; unfold word_Put16.f at h_; cases h_; rfl)); (case hat => (have hl_ : y242.length = t238.length := (by rw [Ny242.out]; simp only [List.length_set])); omega); intro w34 hw hg hp0_; have hp_ : Kd.R (Kd.int .u8) 5 w34 w.heap.size (fun k_ => some k_ ≠ (.slice (some ad250) t247.length co32 : Value).ownBlock) (.slice (some ⟨go14, 0, none⟩) t238.length co28) y253 := (by rw [Ny253.out, Ny251.out]; exact hp0_); clear HP33 hp0_; have n0_ := Aside0.mk (hp_); have n1_ := Aside0.mk (Kd.R_after (v := (.slice (some ⟨go14, 0, none⟩) t238.length co28)) (v1 := (.slice (some ⟨go14, 0, none⟩) t238.length co28)) (ok := (fun _ => True)) (by (with_reducible repeat (first | apply Kd.R_alloc | apply Kd.R_drewN | apply Kd.R_drew)); exact HO249.out) hg (.inl rfl)); have n2_ := Aside0.mk ((by rw [hw]; exact below_set (below_set (HB.out) GB14.out) GB14.out : Below w.heap.size w w34)); clear HO240; clear HO249; clear HB; have HO240 := n0_; have HO249 := n1_; have HB := n2_; clear n0_ n1_ n2_; clear hg hw hp_)
                      (try simp only [Act.put, List.setIfInBounds_toArray, List.set_cons_zero, List.set_cons_succ])
                      go_wp2
                      go_ret
                      exact ⟨_, by first | rfl | (simp [errW_none, errW_some] <;> rfl) | (simp [*, errW_none, errW_some] <;> rfl), by (with_reducible repeat (first | apply Kd.R_alloc | apply Kd.R_drewN | apply Kd.R_drew)); exact Kd.R_mono HO240.out (fun _ hk => trivial), by repeat (first | (with_reducible first | exact HB.out | apply below_alloc | apply pw_below_drewN | apply below_drew1) | exact HB.out)⟩
                    · rw [if_neg c24] at H
                      exact absurd H (by simp)
                  · rw [if_neg c23] at H
                    exact absurd H (by simp)
                · rw [if_neg c21] at H
                  exact absurd H (by simp)
              · rw [if_neg c20] at H
                exact absurd H (by simp)
            · rw [if_neg c13] at H
              exact absurd H (by simp)
          · rw [if_neg c11] at H
            exact absurd H (by simp)
        · rw [if_neg c10] at H
          exact absurd H (by simp)

/-! ### castellanref1_Put16: function 45 -/
def castellanref1_Put16.f (a0 : Int) : Option (List Int) := some (([(a0 / 256) % 256, (a0) % 256] : List Int))
set_option maxHeartbeats 8000000 in
set_option maxRecDepth 100000 in
theorem castellanref1_Put16.calls (a0 : Int) (r : List Int) (w : World) (h : castellanref1_Put16.f a0 = some r) :
    Calls Try.prog 45 #[.int .i64 a0] w fun e w' => ∃ v0_ : Value, e = .returned (v0_) ∧ Kd.R (Kd.int .u8) 5 w' w.heap.size (fun _ => True) v0_ r ∧ Below w.heap.size w w' := by
  have HB := Aside0.mk (Below.refl w.heap.size w)
  have H : (some (([(a0 / 256) % 256, (a0) % 256] : List Int))) = some r := h
  clear h
  obtain ⟨y254, hy254⟩ : ∃ y_ : List Int, y_ = (([(a0 / 256) % 256, (a0) % 256] : List Int)) := ⟨_, rfl⟩
  replace H : (some y254) = some r := by first | (rw [hy254]; with_reducible exact H) | (have H2_ := (Option.bind_some _ _).symm.trans H; rw [hy254]; with_reducible exact H2_) | (have H2_ := (Option.bind_some _ _).symm.trans H; with_reducible exact H2_) | with_reducible exact H | (rw [hy254]; exact H) | exact H
  have Ny254 := Aside0.mk hy254
  clear hy254
  obtain rfl := Option.some.inj H
  go_enter Try.func45, Try.ntmps45
  go_wp2_with (first | ((with_reducible refine gate_dst (N := 8) rfl ?_); refine Kd.R_lit (Kd.int .u8) _ 5 ?hg (N := 8) ?hd (xs := ([(a0 / 256) % 256, (a0) % 256] : List Int)) (inner := [.int .u8 ((a0 / 256) % 256), .int .u8 ((a0) % 256)]) (ok := fun _ => True) (okp := fun _ => True) ?hr ?hp (fun _ hk => hk) trivial (Below.refl _ _) (Nat.le_refl _) (by simp) ?_; (case hd => rfl); (case hg => rfl); (case hr => first | (go_simp; done) | (go_simp; rfl)); (case hp => exact (Reps.one (show Kd.M (Kd.int .u8) _ _ _ ((a0 / 256) % 256) [.int .u8 ((a0 / 256) % 256)] from rfl) (Reps.one (show Kd.M (Kd.int .u8) _ _ _ ((a0) % 256) [.int .u8 ((a0) % 256)] from rfl) (Reps.none _ _)))); intro v255 w2 ho3 hb hg_ hnew_; clear hg_ hnew_; (first | rw [← Ny254.out] at ho3 | (simp only [Int.reduceToNat] at ho3; rw [← Ny254.out] at ho3)); have n0_ := Aside0.mk (Kd.R_lower ho3 (below_size (by repeat (first | (with_reducible first | exact HB.out | apply below_alloc | apply pw_below_drewN | apply below_drew1) | exact HB.out)))); have n1_ := Aside0.mk (below_step (by repeat (first | (with_reducible first | exact HB.out | apply below_alloc | apply pw_below_drewN | apply below_drew1) | exact HB.out)) hb); clear HB; have HO256 := n0_; have HB := n1_; clear n0_ n1_; clear hb ho3))
  go_ret
  exact ⟨_, by first | rfl | (simp [errW_none, errW_some] <;> rfl) | (simp [*, errW_none, errW_some] <;> rfl), by (with_reducible repeat (first | apply Kd.R_alloc | apply Kd.R_drewN | apply Kd.R_drew)); exact HO256.out, by repeat (first | (with_reducible first | exact HB.out | apply below_alloc | apply pw_below_drewN | apply below_drew1) | exact HB.out)⟩

/-! ### castellanref4_look: function 50 -/
mutual
def castellanref4_look.j0 : Nat → List Int → Int → Bool → Option (Int)
  | 0, _, _, _ => none
  | k + 1, x0, x3, x10 => if x10 = true then (some 2) else (if (x0.length : Int) < x3 then (some 3) else (if 0 ≤ x3 then (if x3 ≤ (x0.length : Int) then ((castellanref2_Right.f k (x0.take (x3 : Int).toNat)).bind fun t260 => (if t260 = true then ((castellanref1_Get16.f x0 2).bind fun t261 => (if t261 < x3 then (castellanref4_look.j1 k x0 true) else (if 6 < (x0.length : Int) then (castellanref4_look.j1 k x0 (((rd x0 6) / 128) == 1)) else (none)))) else (some 4))) else (none)) else (none)))
def castellanref4_look.j1 : Nat → List Int → Bool → Option (Int)
  | 0, _, _ => none
  | k + 1, x0, x31 => if x31 = true then (some 2) else ((castellanref1_Get16.f x0 2).bind fun t263 => (if t263 > (x0.length : Int) then (some 3) else (some 0)))
end
def castellanref4_look.f (k : Nat) (l0 : List Int) : Option (Int) := (castellanref4_Header.f l0).bind fun t257 => (if (l0.length : Int) < 20 then (some 3) else (if 0 < (l0.length : Int) then (if ((rd l0 0) / 16) = 4 then (castellanref4_look.j0 k l0 t257 (decide (t257 < 20))) else (castellanref4_look.j0 k l0 t257 true)) else (none)))
theorem castellanref4_look.mono_l : ∀ k, (∀ y0 y1 y2, LeO (castellanref4_look.j0 k y0 y1 y2) (castellanref4_look.j0 (k + 1) y0 y1 y2)) ∧ (∀ y0 y1, LeO (castellanref4_look.j1 k y0 y1) (castellanref4_look.j1 (k + 1) y0 y1))
  | 0 => ⟨fun _ _ _ r h => by simp [castellanref4_look.j0] at h, fun _ _ r h => by simp [castellanref4_look.j1] at h⟩
  | k + 1 => by
    obtain ⟨ih0, ih1⟩ := castellanref4_look.mono_l k
    refine ⟨?_, ?_⟩
    · intro y0 y1 y2
      unfold castellanref4_look.j0
      repeat' first
      | (with_reducible exact ih0 _ _ _)
      | (with_reducible exact ih1 _ _)
      | (with_reducible exact castellanref2_Right.mono _ _)
      | (with_reducible exact LeO.refl _)
      | (with_reducible exact LeO.none _)
      | (with_reducible refine LeO.ite ?_ ?_)
      | (with_reducible refine LeO.bind ?_ (fun _ => ?_))
      | exact ih0 _ _ _
      | exact ih1 _ _
      | exact castellanref2_Right.mono _ _
      | exact LeO.none _
      | refine LeO.ite ?_ ?_
      | refine LeO.bind ?_ (fun _ => ?_)
    · intro y0 y1
      unfold castellanref4_look.j1
      repeat' first
      | (with_reducible exact ih0 _ _ _)
      | (with_reducible exact ih1 _ _)
      | (with_reducible exact castellanref2_Right.mono _ _)
      | (with_reducible exact LeO.refl _)
      | (with_reducible exact LeO.none _)
      | (with_reducible refine LeO.ite ?_ ?_)
      | (with_reducible refine LeO.bind ?_ (fun _ => ?_))
      | exact ih0 _ _ _
      | exact ih1 _ _
      | exact castellanref2_Right.mono _ _
      | exact LeO.none _
      | refine LeO.ite ?_ ?_
      | refine LeO.bind ?_ (fun _ => ?_)
theorem castellanref4_look.mono : ∀ a0 k, LeO (castellanref4_look.f k a0) (castellanref4_look.f (k + 1) a0) := by
  intro a0 k
  obtain ⟨ih0, ih1⟩ := castellanref4_look.mono_l k
  unfold castellanref4_look.f
  repeat' first
      | (with_reducible exact ih0 _ _ _)
      | (with_reducible exact ih1 _ _)
      | (with_reducible exact castellanref2_Right.mono _ _)
      | (with_reducible exact LeO.refl _)
      | (with_reducible exact LeO.none _)
      | (with_reducible refine LeO.ite ?_ ?_)
      | (with_reducible refine LeO.bind ?_ (fun _ => ?_))
      | exact ih0 _ _ _
      | exact ih1 _ _
      | exact castellanref2_Right.mono _ _
      | exact LeO.none _
      | refine LeO.ite ?_ ?_
      | refine LeO.bind ?_ (fun _ => ?_)
set_option maxHeartbeats 8000000 in
set_option maxRecDepth 100000 in
theorem castellanref4_look.calls (k : Nat) (A0 : Option Addr) (c0 : Nat) (l0 : List Int) (r : Int) (w : World) (hr0 : Kd.C (Kd.int .u8) w A0 l0.length l0) (hc0 : l0.length ≤ c0) (h : castellanref4_look.f k l0 = some r) :
    Calls Try.prog 50 #[.slice A0 l0.length c0] w fun e w' => e = .returned (.int .i64 r) ∧ Drawn0 w w' := by
  have HR0 := Aside0.mk hr0
  have HC0 := Aside0.mk hc0
  clear hr0 hc0
  have H : ((castellanref4_Header.f l0).bind fun t257 => (if (l0.length : Int) < 20 then (some 3) else (if 0 < (l0.length : Int) then (if ((rd l0 0) / 16) = 4 then (castellanref4_look.j0 k l0 t257 (decide (t257 < 20))) else (castellanref4_look.j0 k l0 t257 true)) else (none)))) = some r := h
  clear h
  replace H := Option.bind_eq_some_iff.mp H
  obtain ⟨t257, A20, H⟩ := H
  replace H : (if (l0.length : Int) < 20 then (some 3) else (if 0 < (l0.length : Int) then (if ((rd l0 0) / 16) = 4 then (castellanref4_look.j0 k l0 t257 (decide (t257 < 20))) else (castellanref4_look.j0 k l0 t257 true)) else (none))) = some r := H
  have A2 := Aside0.mk A20
  clear A20
  by_cases c3 : (l0.length : Int) < 20
  · rw [if_pos c3] at H
    have c3b0 : decide ((l0.length : Int) < 20) = true := decide_eq_true c3
    have c3b1 : decide (l0.length < 20) = true := decide_eq_true (by omega)
    clear c3
    obtain rfl := Option.some.inj H
    go_enter Try.func50, Try.ntmps50
    go_wp2_with (first | ((with_reducible refine gate_callee (f := 28) rfl ?_); refine goesL_ (some 5) rfl rfl Try.func28 (by kernel_rfl) rfl #[.slice A0 l0.length c0] rfl (by (try simp only [List.map_toArray, List.map_cons, List.map_nil]); first | done | rfl | (simp only [List.length_drop, List.length_take]; rfl)) ?_; (with_reducible refine (castellanref4_Header.calls _ _ l0 t257 _ ?side1 ?side2 A2.out).mono ?_); (case side1 => repeat (first | exact HR0.out | (with_reducible refine Kd.C_alloc ?_ _) | (with_reducible refine Kd.C_drewN ?_ _) | (with_reducible refine Kd.C_drew ?_))); (case side2 => exact HC0.out); rintro e w' ⟨rfl, ⟨nd, rfl⟩⟩; refine ⟨_, rfl, ?_⟩))
    go_ret
    exact ⟨by first | rfl | (simp; done) | (simp [*]; done), by repeat (first | exact Drawn0.refl _ | apply Drawn0.step)⟩
  · rw [if_neg c3] at H
    have c3b0 : decide ((l0.length : Int) < 20) = false := decide_eq_false c3
    have c3b1 : decide (l0.length < 20) = false := decide_eq_false (by omega)
    clear c3
    have HC4 := Aside0.mk H
    clear H
    go_enter Try.func50, Try.ntmps50
    go_upto_region 4 with (first | ((with_reducible refine gate_callee (f := 28) rfl ?_); refine goesL_ (some 5) rfl rfl Try.func28 (by kernel_rfl) rfl #[.slice A0 l0.length c0] rfl (by (try simp only [List.map_toArray, List.map_cons, List.map_nil]); first | done | rfl | (simp only [List.length_drop, List.length_take]; rfl)) ?_; (with_reducible refine (castellanref4_Header.calls _ _ l0 t257 _ ?side1 ?side2 A2.out).mono ?_); (case side1 => repeat (first | exact HR0.out | (with_reducible refine Kd.C_alloc ?_ _) | (with_reducible refine Kd.C_drewN ?_ _) | (with_reducible refine Kd.C_drew ?_))); (case side2 => exact HC0.out); rintro e w' ⟨rfl, ⟨nd, rfl⟩⟩; refine ⟨_, rfl, ?_⟩))
    (try simp only [Act.put, List.setIfInBounds_toArray, List.set_cons_zero, List.set_cons_succ])
    go_cut [10] (fun v10 wc => ∃ (kq : Nat) (x10_3 : Bool), v10 = .bool x10_3 ∧ Aside0 (castellanref4_look.j0 kq l0 t257 x10_3 = some r) ∧ Aside0 (kq ≤ k) ∧ Drawn0 w wc)
    case first =>
      have H := HC4.out
      clear HC4
      by_cases c5 : 0 < (l0.length : Int)
      · rw [if_pos c5] at H
        have c5b0 : decide (0 < (l0.length : Int)) = true := decide_eq_true c5
        have c5b1 : decide (0 < l0.length) = true := decide_eq_true (by omega)
        clear c5
        (first | rw [c5b0] | (simp only [i64_w, i32_w]; rw [c5b0]) | skip)
        by_cases c6 : ((rd l0 0) / 16) = 4
        · rw [if_pos c6] at H
          have c6b0 : (((rd l0 0) / 16) == 4) = true := beq_iff_eq.mpr c6
          have c6b1 : (((rd l0 0) / 16) != 4) = false := bne_eq_false_iff_eq.mpr c6
          clear c6
          have H' := Aside0.mk H
          clear H
          have p258 : 0 ≤ (0 : Int) := (by omega)
          have q258 : 0 < (l0.length : Int) := of_decide_eq_true (by first | (with_reducible assumption) | assumption)
          obtain ⟨ad258, e258, hx258_0⟩ := Kd.at_int HR0.out 0 p258 q258
          cases e258
          have qi258 : (0 < l0.length) = True := eq_true (by omega)
          (try rw [show ((0 : Int)).toNat = 0 from rfl] at hx258_0)
          (try rw [Addr.add_zero'] at hx258_0)
          replace p258 := eq_true p258
          replace q258 := eq_true q258
          go_wp2
          go_meet
          case rel => exact ⟨_, (decide (t257 < 20)), (by first | rfl | (simp; done) | (simp [*]; done)), H', ⟨by first | omega | exact Nat.le_refl _⟩, by repeat (first | exact Drawn0.refl _ | apply Drawn0.step)⟩
        · rw [if_neg c6] at H
          have c6b0 : (((rd l0 0) / 16) == 4) = false := beq_eq_false_iff_ne.mpr c6
          have c6b1 : (((rd l0 0) / 16) != 4) = true := bne_iff_ne.mpr c6
          have H' := Aside0.mk H
          clear H
          have p258 : 0 ≤ (0 : Int) := (by omega)
          have q258 : 0 < (l0.length : Int) := of_decide_eq_true (by first | (with_reducible assumption) | assumption)
          obtain ⟨ad258, e258, hx258_0⟩ := Kd.at_int HR0.out 0 p258 q258
          cases e258
          have qi258 : (0 < l0.length) = True := eq_true (by omega)
          (try rw [show ((0 : Int)).toNat = 0 from rfl] at hx258_0)
          (try rw [Addr.add_zero'] at hx258_0)
          replace p258 := eq_true p258
          replace q258 := eq_true q258
          go_wp2
          go_meet
          case rel => exact ⟨_, (true), (by first | rfl | (simp; done) | (simp [*]; done)), H', ⟨by first | omega | exact Nat.le_refl _⟩, by repeat (first | exact Drawn0.refl _ | apply Drawn0.step)⟩
      · rw [if_neg c5] at H
        exact absurd H (by simp)
    case rest =>
      clear HC4
      try clear c2
      try clear p2
      try clear q2
      try clear hx2
      try clear qi2
      try clear c3
      try clear c3b0
      try clear c3b1
      try clear c5
      try clear c5b0
      try clear c5b1
      try clear c6
      try clear c6b0
      try clear c6b1
      try clear hx258_0
      try clear p258
      try clear q258
      obtain ⟨kq, x10_3, rfl, HA, HJ3, ⟨mc3, rfl⟩⟩ := hcut
      cases kq with
      | zero => exact absurd HA.out (by simp [castellanref4_look.j0])
      | succ kj3 =>
        have H := HA.out
        clear HA
        simp only [castellanref4_look.j0] at H
        by_cases c7 : x10_3 = true
        · subst c7
          have H1 : (some 2) = some r := by rw [if_pos rfl] at H; exact H
          clear H
          have H := H1
          clear H1
          obtain rfl := Option.some.inj H
          go_wp2
          go_ret
          exact ⟨by first | rfl | (simp; done) | (simp [*]; done), by repeat (first | exact Drawn0.refl _ | apply Drawn0.step)⟩
        · replace c7 := Bool.eq_false_iff.mpr c7
          subst c7
          have H1 : (if (l0.length : Int) < t257 then (some 3) else (if 0 ≤ t257 then (if t257 ≤ (l0.length : Int) then ((castellanref2_Right.f kj3 (l0.take (t257 : Int).toNat)).bind fun t260 => (if t260 = true then ((castellanref1_Get16.f l0 2).bind fun t261 => (if t261 < t257 then (castellanref4_look.j1 kj3 l0 true) else (if 6 < (l0.length : Int) then (castellanref4_look.j1 kj3 l0 (((rd l0 6) / 128) == 1)) else (none)))) else (some 4))) else (none)) else (none))) = some r := by rw [if_neg (show ¬ (false = true) by decide)] at H; exact H
          clear H
          have H := H1
          clear H1
          by_cases c8 : (l0.length : Int) < t257
          · rw [if_pos c8] at H
            have c8b0 : decide ((l0.length : Int) < t257) = true := decide_eq_true c8
            clear c8
            obtain rfl := Option.some.inj H
            go_wp2
            go_ret
            exact ⟨by first | rfl | (simp; done) | (simp [*]; done), by repeat (first | exact Drawn0.refl _ | apply Drawn0.step)⟩
          · rw [if_neg c8] at H
            have c8b0 : decide ((l0.length : Int) < t257) = false := decide_eq_false c8
            clear c8
            by_cases c9 : 0 ≤ t257
            · rw [if_pos c9] at H
              have c9b0 := eq_true c9
              have c9b1 : decide (0 ≤ t257) = true := decide_eq_true c9
              clear c9
              by_cases c10 : t257 ≤ (l0.length : Int)
              · rw [if_pos c10] at H
                have c10b0 := eq_true c10
                have c10b1 : decide (t257 ≤ (l0.length : Int)) = true := decide_eq_true c10
                clear c10
                replace H := Option.bind_eq_some_iff.mp H
                obtain ⟨t260, A110, H⟩ := H
                replace H : (if t260 = true then ((castellanref1_Get16.f l0 2).bind fun t261 => (if t261 < t257 then (castellanref4_look.j1 kj3 l0 true) else (if 6 < (l0.length : Int) then (castellanref4_look.j1 kj3 l0 (((rd l0 6) / 128) == 1)) else (none)))) else (some 4)) = some r := H
                have A11 := Aside0.mk A110
                clear A110
                by_cases c12 : t260 = true
                · subst c12
                  have H1 : ((castellanref1_Get16.f l0 2).bind fun t261 => (if t261 < t257 then (castellanref4_look.j1 kj3 l0 true) else (if 6 < (l0.length : Int) then (castellanref4_look.j1 kj3 l0 (((rd l0 6) / 128) == 1)) else (none)))) = some r := by rw [if_pos rfl] at H; exact H
                  clear H
                  have H := H1
                  clear H1
                  have HC13 := Aside0.mk H
                  clear H
                  obtain ⟨i014, hi014, _, hsz14, _⟩ := info_parts info5
                  obtain ⟨hcut14, hA14, hC14⟩ := print_take_of (P := Try.prog) (Value.int .u8) 0 24 5 .i64 Try.underlying24 hi014 hsz14 A0 c0 l0 t257 (of_decide_eq_true (by first | (with_reducible assumption) | assumption)) (of_decide_eq_true (by first | (with_reducible assumption) | assumption)) HC0.out
                  have HR259 := Aside0.mk (Kd.C_of_reads (h1 := fun _ => rfl) (hA14 _ (Kd.reads_of_C HR0.out)))
                  have HC259 := Aside0.mk hC14
                  clear hA14 hC14 hi014 hsz14
                  go_upto_region 10 with (first | ((with_reducible refine gate_callee (f := 18) rfl ?_); refine goesL_ (some 29) rfl rfl Try.func18 (by kernel_rfl) rfl #[.slice A0 (l0.take (t257 : Int).toNat).length c0] rfl (by (try simp only [List.map_toArray, List.map_cons, List.map_nil]); first | done | (rw [show (l0.take (t257 : Int).toNat).length = t257.toNat from (by rw [List.length_take]; have h_ : (t257 : Int) ≤ (l0.length : Int) := of_decide_eq_true (by first | (with_reducible assumption) | assumption); omega)] <;> rfl) | rfl | (simp only [List.length_drop, List.length_take]; rfl)) ?_; (with_reducible refine (castellanref2_Right.calls kj3 _ _ (l0.take (t257 : Int).toNat) true _ ?side1 ?side2 A11.out).mono ?_); (case side1 => repeat (first | exact HR259.out | (with_reducible refine Kd.C_alloc ?_ _) | (with_reducible refine Kd.C_drewN ?_ _) | (with_reducible refine Kd.C_drew ?_))); (case side2 => exact HC259.out); rintro e w' ⟨rfl, ⟨nd, rfl⟩⟩; refine ⟨_, rfl, ?_⟩))
                  (try simp only [Act.put, List.setIfInBounds_toArray, List.set_cons_zero, List.set_cons_succ])
                  go_cut [31] (fun v31 wc => ∃ (kq : Nat) (x31_12 : Bool), v31 = .bool x31_12 ∧ Aside0 (castellanref4_look.j1 kq l0 x31_12 = some r) ∧ Aside0 (kq ≤ kj3) ∧ Drawn0 w wc)
                  case first =>
                    have H := HC13.out
                    clear HC13
                    replace H := Option.bind_eq_some_iff.mp H
                    obtain ⟨t261, A150, H⟩ := H
                    replace H : (if t261 < t257 then (castellanref4_look.j1 kj3 l0 true) else (if 6 < (l0.length : Int) then (castellanref4_look.j1 kj3 l0 (((rd l0 6) / 128) == 1)) else (none))) = some r := H
                    have A15 := Aside0.mk A150
                    clear A150
                    by_cases c16 : t261 < t257
                    · rw [if_pos c16] at H
                      have c16b0 : decide (t261 < t257) = true := decide_eq_true c16
                      clear c16
                      (first | rw [c16b0] | (simp only [i64_w, i32_w]; rw [c16b0]) | skip)
                      have H' := Aside0.mk H
                      clear H
                      go_wp2_with (first | ((with_reducible refine gate_callee (f := 46) rfl ?_); refine goesL_ (some 33) rfl rfl Try.func46 (by kernel_rfl) rfl #[.slice A0 l0.length c0, .int .i64 2] rfl (by (try simp only [List.map_toArray, List.map_cons, List.map_nil]); first | done | rfl | (simp only [List.length_drop, List.length_take]; rfl)) ?_; (with_reducible refine (castellanref1_Get16.calls _ _ l0 2 t261 _ ?side1 ?side2 A15.out).mono ?_); (case side1 => repeat (first | exact HR0.out | (with_reducible refine Kd.C_alloc ?_ _) | (with_reducible refine Kd.C_drewN ?_ _) | (with_reducible refine Kd.C_drew ?_))); (case side2 => exact HC0.out); rintro e w' ⟨rfl, ⟨nd, rfl⟩⟩; refine ⟨_, rfl, ?_⟩))
                      go_meet
                      case rel => exact ⟨_, (true), (by first | rfl | (simp; done) | (simp [*]; done)), H', ⟨by have := HJ3.out; first | omega | exact Nat.le_refl _⟩, by repeat (first | exact Drawn0.refl _ | apply Drawn0.step)⟩
                    · rw [if_neg c16] at H
                      have c16b0 : decide (t261 < t257) = false := decide_eq_false c16
                      clear c16
                      (first | rw [c16b0] | (simp only [i64_w, i32_w]; rw [c16b0]) | skip)
                      by_cases c17 : 6 < (l0.length : Int)
                      · rw [if_pos c17] at H
                        have c17b0 : decide (6 < (l0.length : Int)) = true := decide_eq_true c17
                        have c17b1 : decide (6 < l0.length) = true := decide_eq_true (by omega)
                        clear c17
                        have H' := Aside0.mk H
                        clear H
                        go_wp2_with (first | ((with_reducible refine gate_callee (f := 46) rfl ?_); refine goesL_ (some 33) rfl rfl Try.func46 (by kernel_rfl) rfl #[.slice A0 l0.length c0, .int .i64 2] rfl (by (try simp only [List.map_toArray, List.map_cons, List.map_nil]); first | done | rfl | (simp only [List.length_drop, List.length_take]; rfl)) ?_; (with_reducible refine (castellanref1_Get16.calls _ _ l0 2 t261 _ ?side1 ?side2 A15.out).mono ?_); (case side1 => repeat (first | exact HR0.out | (with_reducible refine Kd.C_alloc ?_ _) | (with_reducible refine Kd.C_drewN ?_ _) | (with_reducible refine Kd.C_drew ?_))); (case side2 => exact HC0.out); rintro e w' ⟨rfl, ⟨nd, rfl⟩⟩; refine ⟨_, rfl, ?_⟩; have p262 : 0 ≤ (6 : Int) := (by omega); have q262 : 6 < (l0.length : Int) := of_decide_eq_true (by first | (with_reducible assumption) | assumption); obtain ⟨ad262, e262, hx262_0⟩ := Kd.at_int HR0.out 6 p262 q262; cases e262; (try simp only [show (6 : Int).toNat = 6 from rfl, Nat.reduceMul, Nat.reduceEqDiff, Go.Addr.add, ↓reduceIte] at hx262_0); have qi262 : (6 < l0.length) = True := eq_true (by omega); (try rw [show ((6 : Int)).toNat = 6 from rfl] at hx262_0); replace p262 := eq_true p262; replace q262 := eq_true q262))
                        go_meet
                        case rel => exact ⟨_, ((((rd l0 6) / 128) == 1)), (by first | rfl | (simp; done) | (simp [*]; done)), H', ⟨by have := HJ3.out; first | omega | exact Nat.le_refl _⟩, by repeat (first | exact Drawn0.refl _ | apply Drawn0.step)⟩
                      · rw [if_neg c17] at H
                        exact absurd H (by simp)
                  case rest =>
                    clear HC13
                    try clear c1
                    try clear c2
                    try clear p2
                    try clear q2
                    try clear hx2
                    try clear qi2
                    try clear c3
                    try clear c3b0
                    try clear c3b1
                    try clear c4
                    try clear c5
                    try clear c5b0
                    try clear c5b1
                    try clear c6
                    try clear c6b0
                    try clear c6b1
                    try clear c7
                    try clear c8
                    try clear c8b0
                    try clear c9
                    try clear c9b0
                    try clear c9b1
                    try clear c10
                    try clear c10b0
                    try clear c10b1
                    try clear c12
                    try clear c16
                    try clear c16b0
                    try clear c17
                    try clear c17b0
                    try clear c17b1
                    try clear hx258_0
                    try clear hx262_0
                    try clear p2
                    try clear p258
                    try clear p262
                    try clear q2
                    try clear q258
                    try clear q262
                    obtain ⟨kq, x31_12, rfl, HA, HJ12, ⟨mc12, rfl⟩⟩ := hcut
                    cases kq with
                    | zero => exact absurd HA.out (by simp [castellanref4_look.j1])
                    | succ kj12 =>
                      have H := HA.out
                      clear HA
                      simp only [castellanref4_look.j1] at H
                      by_cases c18 : x31_12 = true
                      · subst c18
                        have H1 : (some 2) = some r := by rw [if_pos rfl] at H; exact H
                        clear H
                        have H := H1
                        clear H1
                        obtain rfl := Option.some.inj H
                        go_wp2
                        go_ret
                        exact ⟨by first | rfl | (simp; done) | (simp [*]; done), by repeat (first | exact Drawn0.refl _ | apply Drawn0.step)⟩
                      · replace c18 := Bool.eq_false_iff.mpr c18
                        subst c18
                        have H1 : ((castellanref1_Get16.f l0 2).bind fun t263 => (if t263 > (l0.length : Int) then (some 3) else (some 0))) = some r := by rw [if_neg (show ¬ (false = true) by decide)] at H; exact H
                        clear H
                        have H := H1
                        clear H1
                        replace H := Option.bind_eq_some_iff.mp H
                        obtain ⟨t263, A190, H⟩ := H
                        replace H : (if t263 > (l0.length : Int) then (some 3) else (some 0)) = some r := H
                        have A19 := Aside0.mk A190
                        clear A190
                        by_cases c20 : t263 > (l0.length : Int)
                        · rw [if_pos c20] at H
                          have c20b0 : decide ((l0.length : Int) < t263) = true := decide_eq_true c20
                          clear c20
                          obtain rfl := Option.some.inj H
                          go_wp2_with (first | ((with_reducible refine gate_callee (f := 46) rfl ?_); refine goesL_ (some 45) rfl rfl Try.func46 (by kernel_rfl) rfl #[.slice A0 l0.length c0, .int .i64 2] rfl (by (try simp only [List.map_toArray, List.map_cons, List.map_nil]); first | done | rfl | (simp only [List.length_drop, List.length_take]; rfl)) ?_; (with_reducible refine (castellanref1_Get16.calls _ _ l0 2 t263 _ ?side1 ?side2 A19.out).mono ?_); (case side1 => repeat (first | exact HR0.out | (with_reducible refine Kd.C_alloc ?_ _) | (with_reducible refine Kd.C_drewN ?_ _) | (with_reducible refine Kd.C_drew ?_))); (case side2 => exact HC0.out); rintro e w' ⟨rfl, ⟨nd, rfl⟩⟩; refine ⟨_, rfl, ?_⟩))
                          go_ret
                          exact ⟨by first | rfl | (simp; done) | (simp [*]; done), by repeat (first | exact Drawn0.refl _ | apply Drawn0.step)⟩
                        · rw [if_neg c20] at H
                          have c20b0 : decide ((l0.length : Int) < t263) = false := decide_eq_false c20
                          clear c20
                          obtain rfl := Option.some.inj H
                          go_wp2_with (first | ((with_reducible refine gate_callee (f := 46) rfl ?_); refine goesL_ (some 45) rfl rfl Try.func46 (by kernel_rfl) rfl #[.slice A0 l0.length c0, .int .i64 2] rfl (by (try simp only [List.map_toArray, List.map_cons, List.map_nil]); first | done | rfl | (simp only [List.length_drop, List.length_take]; rfl)) ?_; (with_reducible refine (castellanref1_Get16.calls _ _ l0 2 t263 _ ?side1 ?side2 A19.out).mono ?_); (case side1 => repeat (first | exact HR0.out | (with_reducible refine Kd.C_alloc ?_ _) | (with_reducible refine Kd.C_drewN ?_ _) | (with_reducible refine Kd.C_drew ?_))); (case side2 => exact HC0.out); rintro e w' ⟨rfl, ⟨nd, rfl⟩⟩; refine ⟨_, rfl, ?_⟩))
                          go_ret
                          exact ⟨by first | rfl | (simp; done) | (simp [*]; done), by repeat (first | exact Drawn0.refl _ | apply Drawn0.step)⟩
                · replace c12 := Bool.eq_false_iff.mpr c12
                  subst c12
                  have H1 : (some 4) = some r := by rw [if_neg (show ¬ (false = true) by decide)] at H; exact H
                  clear H
                  have H := H1
                  clear H1
                  obtain rfl := Option.some.inj H
                  obtain ⟨i021, hi021, _, hsz21, _⟩ := info_parts info5
                  obtain ⟨hcut21, hA21, hC21⟩ := print_take_of (P := Try.prog) (Value.int .u8) 0 24 5 .i64 Try.underlying24 hi021 hsz21 A0 c0 l0 t257 (of_decide_eq_true (by first | (with_reducible assumption) | assumption)) (of_decide_eq_true (by first | (with_reducible assumption) | assumption)) HC0.out
                  have HR259 := Aside0.mk (Kd.C_of_reads (h1 := fun _ => rfl) (hA21 _ (Kd.reads_of_C HR0.out)))
                  have HC259 := Aside0.mk hC21
                  clear hA21 hC21 hi021 hsz21
                  go_wp2_with (first | ((with_reducible refine gate_callee (f := 18) rfl ?_); refine goesL_ (some 29) rfl rfl Try.func18 (by kernel_rfl) rfl #[.slice A0 (l0.take (t257 : Int).toNat).length c0] rfl (by (try simp only [List.map_toArray, List.map_cons, List.map_nil]); first | done | (rw [show (l0.take (t257 : Int).toNat).length = t257.toNat from (by rw [List.length_take]; have h_ : (t257 : Int) ≤ (l0.length : Int) := of_decide_eq_true (by first | (with_reducible assumption) | assumption); omega)] <;> rfl) | rfl | (simp only [List.length_drop, List.length_take]; rfl)) ?_; (with_reducible refine (castellanref2_Right.calls kj3 _ _ (l0.take (t257 : Int).toNat) false _ ?side1 ?side2 A11.out).mono ?_); (case side1 => repeat (first | exact HR259.out | (with_reducible refine Kd.C_alloc ?_ _) | (with_reducible refine Kd.C_drewN ?_ _) | (with_reducible refine Kd.C_drew ?_))); (case side2 => exact HC259.out); rintro e w' ⟨rfl, ⟨nd, rfl⟩⟩; refine ⟨_, rfl, ?_⟩))
                  go_ret
                  exact ⟨by first | rfl | (simp; done) | (simp [*]; done), by repeat (first | exact Drawn0.refl _ | apply Drawn0.step)⟩
              · rw [if_neg c10] at H
                exact absurd H (by simp)
            · rw [if_neg c9] at H
              exact absurd H (by simp)

/-! ### castellanref2_Update: function 55 -/
def castellanref2_Update.f (k : Nat) (a0 : Int) (a1 : Int) (a2 : Int) : Option (Int) := (castellanref2_fold.f k (wrap64 ((wrap64 ((wrap64 ((wrap64 (65535 - (Go.bits .and .i64 a0 65535))) + 65535)) - (Go.bits .and .i64 a1 65535))) + (Go.bits .and .i64 a2 65535)))).bind fun t264 => (some (wrap64 (65535 - t264)))
theorem castellanref2_Update.mono : ∀ a0 a1 a2 k, LeO (castellanref2_Update.f k a0 a1 a2) (castellanref2_Update.f (k + 1) a0 a1 a2) := by
  intro a0 a1 a2 k
  unfold castellanref2_Update.f
  repeat' first
      | (with_reducible exact castellanref2_fold.mono _ _)
      | (with_reducible exact LeO.refl _)
      | (with_reducible exact LeO.none _)
      | (with_reducible refine LeO.ite ?_ ?_)
      | (with_reducible refine LeO.bind ?_ (fun _ => ?_))
      | exact castellanref2_fold.mono _ _
      | exact LeO.none _
      | refine LeO.ite ?_ ?_
      | refine LeO.bind ?_ (fun _ => ?_)
set_option maxHeartbeats 8000000 in
set_option maxRecDepth 100000 in
theorem castellanref2_Update.calls (k : Nat) (a0 : Int) (a1 : Int) (a2 : Int) (r : Int) (w : World) (h : castellanref2_Update.f k a0 a1 a2 = some r) :
    Calls Try.prog 55 #[.int .i64 a0, .int .i64 a1, .int .i64 a2] w fun e w' => e = .returned (.int .i64 r) ∧ Drawn0 w w' := by
  have H : ((castellanref2_fold.f k (wrap64 ((wrap64 ((wrap64 ((wrap64 (65535 - (Go.bits .and .i64 a0 65535))) + 65535)) - (Go.bits .and .i64 a1 65535))) + (Go.bits .and .i64 a2 65535)))).bind fun t264 => (some (wrap64 (65535 - t264)))) = some r := h
  clear h
  replace H := Option.bind_eq_some_iff.mp H
  obtain ⟨t264, A40, H⟩ := H
  replace H : (some (wrap64 (65535 - t264))) = some r := H
  have A4 := Aside0.mk A40
  clear A40
  obtain rfl := Option.some.inj H
  go_enter Try.func55, Try.ntmps55
  go_wp2_with (first | ((with_reducible refine gate_callee (f := 59) rfl ?_); refine goesL_ (some 17) rfl rfl Try.func59 (by kernel_rfl) rfl #[.int .i64 (wrap64 ((wrap64 ((wrap64 ((wrap64 (65535 - (Go.bits .and .i64 a0 65535))) + 65535)) - (Go.bits .and .i64 a1 65535))) + (Go.bits .and .i64 a2 65535)))] rfl (by (try simp only [List.map_toArray, List.map_cons, List.map_nil]); first | done | rfl | (simp only [List.length_drop, List.length_take]; rfl)) ?_; (with_reducible refine (castellanref2_fold.calls k (wrap64 ((wrap64 ((wrap64 ((wrap64 (65535 - (Go.bits .and .i64 a0 65535))) + 65535)) - (Go.bits .and .i64 a1 65535))) + (Go.bits .and .i64 a2 65535))) t264 _ A4.out).mono ?_); rintro e w' ⟨rfl, ⟨nd, rfl⟩⟩; refine ⟨_, rfl, ?_⟩))
  go_ret
  exact ⟨by first | rfl | (simp; done) | (simp [*]; done), by repeat (first | exact Drawn0.refl _ | apply Drawn0.step)⟩

end Go.Proofs.Ytbpnienknijogaa.QIpLess
