-- written by myprint.py, a program of this session's over the kit's printer
import Derived.Test.YtbpnienknijogaaQIpCutx0
import Derived.Test.YtbpnienknijogaaQIpCutx2
import Derived.Test.YtbpnienknijogaaQIpCutx4
namespace Go.Proofs.Ytbpnienknijogaa.QIpCut
open Go.RowKit Go.Proofs.YtbpnienknijogaaW.PrintWords Go.Proofs.YtbpnienknijogaaW.PrintLast Go.Proofs.YtbpnienknijogaaW.PrintMore
attribute [local go_sem] max2_int min2_int max_two min_two max_three min_three max_four min_four   -- for this text's walks alone
set_option linter.unusedVariables false
set_option linter.unusedSimpArgs false

/-! ### castellanlaw4_known: function 29 -/
def castellanlaw4_known.f (k : Nat)  : Option (Bool) := (ip_Build.f k 0 0 false false 0 5 0 0 0 ([] : List Int) ([] : List Int)).bind fun bt203 => ((ip_Parse.f k bt203.1).bind fun bt207 => (if bt203.2 = 0 then (if (bt203.1.length : Int) = 20 then (if bt207.2.2.2.2.2.2.2.2.2.2.2 = 0 then (some (bt207.2.2.2.2.2.1 == 5)) else (some false)) else (some false)) else (some false)))
theorem castellanlaw4_known.mono : ∀ k, LeO (castellanlaw4_known.f k ) (castellanlaw4_known.f (k + 1) ) := by
  intro  k
  unfold castellanlaw4_known.f
  repeat' first
      | (with_reducible exact ip_Build.mono _ _ _ _ _ _ _ _ _ _ _ _)
      | (with_reducible exact ip_Parse.mono _ _)
      | (with_reducible exact LeO.refl _)
      | (with_reducible exact LeO.none _)
      | (with_reducible refine LeO.ite ?_ ?_)
      | (with_reducible refine LeO.bind ?_ (fun _ => ?_))
      | exact ip_Build.mono _ _ _ _ _ _ _ _ _ _ _ _
      | exact ip_Parse.mono _ _
      | exact LeO.none _
      | refine LeO.ite ?_ ?_
      | refine LeO.bind ?_ (fun _ => ?_)
set_option maxHeartbeats 8000000 in
set_option maxRecDepth 100000 in
theorem castellanlaw4_known.calls (k : Nat)  (r : Bool) (w : World) (h : castellanlaw4_known.f k  = some r) :
    Calls Try.prog 29 #[] w fun e w' => e = .returned (.bool r) ∧ Below w.heap.size w w' := by
  have hu45 := Try.underlying45
  have HB := Aside0.mk (Below.refl w.heap.size w)
  have H : ((ip_Build.f k 0 0 false false 0 5 0 0 0 ([] : List Int) ([] : List Int)).bind fun bt203 => ((ip_Parse.f k bt203.1).bind fun bt207 => (if bt203.2 = 0 then (if (bt203.1.length : Int) = 20 then (if bt207.2.2.2.2.2.2.2.2.2.2.2 = 0 then (some (bt207.2.2.2.2.2.1 == 5)) else (some false)) else (some false)) else (some false)))) = some r := h
  clear h
  replace H := Option.bind_eq_some_iff.mp H
  obtain ⟨⟨t203, t206⟩, A10, H⟩ := H
  replace H : ((ip_Parse.f k t203).bind fun bt207 => (if t206 = 0 then (if (t203.length : Int) = 20 then (if bt207.2.2.2.2.2.2.2.2.2.2.2 = 0 then (some (bt207.2.2.2.2.2.1 == 5)) else (some false)) else (some false)) else (some false))) = some r := H
  have A1 := Aside0.mk A10
  clear A10
  replace H := Option.bind_eq_some_iff.mp H
  obtain ⟨⟨t207, t208, t209, t210, t211, t212, t213, t214, t215, t216, t219, t222⟩, A20, H⟩ := H
  replace H : (if t206 = 0 then (if (t203.length : Int) = 20 then (if t222 = 0 then (some (t212 == 5)) else (some false)) else (some false)) else (some false)) = some r := H
  have A2 := Aside0.mk A20
  clear A20
  by_cases c3 : t206 = 0
  · rw [if_pos c3] at H
    have c3b0 : (t206 == 0) = true := beq_iff_eq.mpr c3
    have c3b1 : (t206 != 0) = false := bne_eq_false_iff_eq.mpr c3
    clear c3
    by_cases c4 : (t203.length : Int) = 20
    · rw [if_pos c4] at H
      have c4b0 : ((t203.length : Int) == 20) = true := beq_iff_eq.mpr c4
      have c4b1 : ((t203.length : Int) != 20) = false := bne_eq_false_iff_eq.mpr c4
      clear c4
      by_cases c5 : t222 = 0
      · rw [if_pos c5] at H
        have c5b0 : (t222 == 0) = true := beq_iff_eq.mpr c5
        have c5b1 : (t222 != 0) = false := bne_eq_false_iff_eq.mpr c5
        clear c5
        obtain rfl := Option.some.inj H
        go_enter Try.func29, Try.ntmps29
        go_wp2_with (first | ((with_reducible refine gate_callee (f := 32) rfl ?_); refine goesL_ (some 7) rfl rfl Try.func32 (by kernel_rfl) rfl #[.agg #[.int .i64 0, .int .i64 0, .bool false, .bool false, .int .i64 0, .int .i64 5, .int .i64 0, .int .u32 0, .int .u32 0, .slice none 0 0, .slice none 0 0]] rfl (by (try simp only [List.map_toArray, List.map_cons, List.map_nil]); first | done | rfl | (simp only [List.length_drop, List.length_take]; rfl)) ?_; (refine (ip_Build.calls k 0 0 false false 0 5 0 0 0 (fun k_ => False) _ _ ([] : List Int) _ _ ([] : List Int) t203 t206 _ ?side1 ?side2 ?side3 A1.out).mono ?_); (case side1 => exact Kd.V_nil _ _ _ _ _); (case side2 => exact Kd.C_nil _ _); (case side3 => exact Nat.le_refl _); rintro e w6 ⟨v204, rfl, ho0, hb⟩; refine ⟨_, rfl, ?_⟩; have n0_ := Aside0.mk (Kd.R_lower (Kd.R_mono (ok' := fun k_ => True) ho0 (fun _ hk_ => trivial)) (below_size (by repeat (first | (with_reducible first | exact HB.out | apply below_alloc | apply pw_below_drewN | apply below_drew1) | exact HB.out)))); have n1_ := Aside0.mk (below_step (by repeat (first | (with_reducible first | exact HB.out | apply below_alloc | apply pw_below_drewN | apply below_drew1) | exact HB.out)) hb); clear HB; have HO205 := n0_; have HB := n1_; clear n0_ n1_; (try clear hb); (try clear hb2); (try clear hk); (try clear hi); (try clear ho0); obtain ⟨Ao7, co7, eo7⟩ := Kd.R_slice HO205.out; subst eo7) | ((with_reducible refine gate_callee (f := 24) rfl ?_); refine goesL_ (some 12) rfl rfl Try.func24 (by kernel_rfl) rfl #[.slice Ao7 t203.length co7] rfl (by (try simp only [List.map_toArray, List.map_cons, List.map_nil]); first | done | rfl | (simp only [List.length_drop, List.length_take]; rfl)) ?_; (with_reducible refine (ip_Parse.calls k _ _ t203 t207 t208 t209 t210 t211 t212 t213 t214 t215 t216 t219 t222 _ ?side1 ?side2 A2.out).mono ?_); (case side1 => repeat (first | exact (Kd.R_reads' HO205.out).2.2 | (with_reducible refine Kd.C_alloc ?_ _) | (with_reducible refine Kd.C_drewN ?_ _) | (with_reducible refine Kd.C_drew ?_))); (case side2 => exact (Kd.R_reads' HO205.out).2.1); rintro e w8 ⟨v217, v220, rfl, ho0, ho1, hb⟩; refine ⟨_, rfl, ?_⟩; have n0_ := Aside0.mk (Kd.R_mono (Kd.R_told (Kd.R_told (Kd.R_old (by (with_reducible repeat (first | apply Kd.R_alloc | apply Kd.R_drewN | apply Kd.R_drew)); exact HO205.out) hb) (Kd.R_base ho0)) (Kd.R_base ho1)) (fun _ h_ => h_.1)); have n1_ := Aside0.mk (Kd.R_lower (Kd.R_new' ho0 (Kd.R_lt (by (with_reducible repeat (first | apply Kd.R_alloc | apply Kd.R_drewN | apply Kd.R_drew)); exact HO205.out))) (below_size (by repeat (first | (with_reducible first | exact HB.out | apply below_alloc | apply pw_below_drewN | apply below_drew1) | exact HB.out)))); have n2_ := Aside0.mk (Kd.R_lower (Kd.R_new' ho1 (Kd.R_lt (by (with_reducible repeat (first | apply Kd.R_alloc | apply Kd.R_drewN | apply Kd.R_drew)); exact HO205.out))) (below_size (by repeat (first | (with_reducible first | exact HB.out | apply below_alloc | apply pw_below_drewN | apply below_drew1) | exact HB.out)))); have n3_ := Aside0.mk (below_step (by repeat (first | (with_reducible first | exact HB.out | apply below_alloc | apply pw_below_drewN | apply below_drew1) | exact HB.out)) hb); clear HO205; clear HB; have HO205 := n0_; have HO218 := n1_; have HO221 := n2_; have HB := n3_; clear n0_ n1_ n2_ n3_; (try clear hb); (try clear hb2); (try clear hk); (try clear hi); (try clear ho0); (try clear ho1)) | ((with_reducible refine gate_dst (N := 3) rfl ?_); (try (refine gate_guard (by rfl) ?_; dsimp only)); refine box_event ?hg (N := 3) ?hd (cs := #[.int .i64 0, .int .i64 0, .bool false, .bool false, .int .i64 0, .int .i64 0, .int .i64 0, .int .u32 0, .int .u32 0, .slice none 0 0, .slice none 0 0]) (t := 45) ?hr ?_; (case hd => rfl); (case hg => rfl); (case hr => first | (go_simp; done) | (go_simp; rfl)); intro gb223 hg w9 hbox hb; have n0_ := Aside0.mk (Kd.R_below (by (with_reducible repeat (first | apply Kd.R_alloc | apply Kd.R_drewN | apply Kd.R_drew)); exact HO205.out) hb); have n1_ := Aside0.mk (Kd.R_below (by (with_reducible repeat (first | apply Kd.R_alloc | apply Kd.R_drewN | apply Kd.R_drew)); exact HO218.out) hb); have n2_ := Aside0.mk (Kd.R_below (by (with_reducible repeat (first | apply Kd.R_alloc | apply Kd.R_drewN | apply Kd.R_drew)); exact HO221.out) hb); have n3_ := Aside0.mk (below_step (by repeat (first | (with_reducible first | exact HB.out | apply below_alloc | apply pw_below_drewN | apply below_drew1) | exact HB.out)) hb); have n4_ := Aside0.mk (hbox); have n5_ := Aside0.mk ((by rw [hg]; exact (below_size (by repeat (first | (with_reducible first | exact HB.out | apply below_alloc | apply pw_below_drewN | apply below_drew1) | exact HB.out))) : w.heap.size ≤ gb223)); have n6_ := Aside0.mk ((by rw [hg]; exact (below_size (by repeat (first | (with_reducible first | exact HB.out | apply below_alloc | apply pw_below_drewN | apply below_drew1) | exact HB.out))) : w.heap.size ≤ gb223)); clear HO205; clear HO218; clear HO221; clear HB; have HO205 := n0_; have HO218 := n1_; have HO221 := n2_; have HB := n3_; have BK223 := n4_; have GW223 := n5_; have GE223 := n6_; clear n0_ n1_ n2_ n3_ n4_ n5_ n6_; clear hb hbox hg; have hcz10_0 : w9.cell? ⟨gb223, 0, none⟩ = some (.int .i64 0) := (blk_cell BK223.out 0).trans rfl; have hcz10_1 : w9.cell? ⟨gb223, 1, none⟩ = some (.int .i64 0) := (blk_cell BK223.out 1).trans rfl; have hcz10_2 : w9.cell? ⟨gb223, 2, none⟩ = some (.bool false) := (blk_cell BK223.out 2).trans rfl; have hcz10_3 : w9.cell? ⟨gb223, 3, none⟩ = some (.bool false) := (blk_cell BK223.out 3).trans rfl; have hcz10_4 : w9.cell? ⟨gb223, 4, none⟩ = some (.int .i64 0) := (blk_cell BK223.out 4).trans rfl; have hcz10_5 : w9.cell? ⟨gb223, 5, none⟩ = some (.int .i64 0) := (blk_cell BK223.out 5).trans rfl; have hcz10_6 : w9.cell? ⟨gb223, 6, none⟩ = some (.int .i64 0) := (blk_cell BK223.out 6).trans rfl; have hcz10_7 : w9.cell? ⟨gb223, 7, none⟩ = some (.int .u32 0) := (blk_cell BK223.out 7).trans rfl; have hcz10_8 : w9.cell? ⟨gb223, 8, none⟩ = some (.int .u32 0) := (blk_cell BK223.out 8).trans rfl; have hcz10_9 : w9.cell? ⟨gb223, 9, none⟩ = some (.slice none 0 0) := (blk_cell BK223.out 9).trans rfl; have hcz10_10 : w9.cell? ⟨gb223, 10, none⟩ = some (.slice none 0 0) := (blk_cell BK223.out 10).trans rfl; have hfz10_0 := blk_frozen BK223.out 0; have hfz10_1 := blk_frozen BK223.out 1; have hfz10_2 := blk_frozen BK223.out 2; have hfz10_3 := blk_frozen BK223.out 3; have hfz10_4 := blk_frozen BK223.out 4; have hfz10_5 := blk_frozen BK223.out 5; have hfz10_6 := blk_frozen BK223.out 6; have hfz10_7 := blk_frozen BK223.out 7; have hfz10_8 := blk_frozen BK223.out 8; have hfz10_9 := blk_frozen BK223.out 9; have hfz10_10 := blk_frozen BK223.out 10; obtain ⟨Ao11, co11, eo11⟩ := Kd.R_slice HO218.out; subst eo11; obtain ⟨Ao12, co12, eo12⟩ := Kd.R_slice HO221.out; subst eo12))
        go_ret
        exact ⟨by first | rfl | (simp [errW_none, errW_some] <;> rfl) | (simp [*, errW_none, errW_some] <;> rfl), by repeat (first | (with_reducible first | exact HB.out | apply below_alloc | apply pw_below_drewN | apply below_drew1 | refine below_set ?_ GE223.out) | exact HB.out)⟩
      · rw [if_neg c5] at H
        have c5b0 : (t222 == 0) = false := beq_eq_false_iff_ne.mpr c5
        have c5b1 : (t222 != 0) = true := bne_iff_ne.mpr c5
        obtain rfl := Option.some.inj H
        go_enter Try.func29, Try.ntmps29
        go_wp2_with (first | ((with_reducible refine gate_callee (f := 32) rfl ?_); refine goesL_ (some 7) rfl rfl Try.func32 (by kernel_rfl) rfl #[.agg #[.int .i64 0, .int .i64 0, .bool false, .bool false, .int .i64 0, .int .i64 5, .int .i64 0, .int .u32 0, .int .u32 0, .slice none 0 0, .slice none 0 0]] rfl (by (try simp only [List.map_toArray, List.map_cons, List.map_nil]); first | done | rfl | (simp only [List.length_drop, List.length_take]; rfl)) ?_; (refine (ip_Build.calls k 0 0 false false 0 5 0 0 0 (fun k_ => False) _ _ ([] : List Int) _ _ ([] : List Int) t203 t206 _ ?side1 ?side2 ?side3 A1.out).mono ?_); (case side1 => exact Kd.V_nil _ _ _ _ _); (case side2 => exact Kd.C_nil _ _); (case side3 => exact Nat.le_refl _); rintro e w13 ⟨v204, rfl, ho0, hb⟩; refine ⟨_, rfl, ?_⟩; have n0_ := Aside0.mk (Kd.R_lower (Kd.R_mono (ok' := fun k_ => True) ho0 (fun _ hk_ => trivial)) (below_size (by repeat (first | (with_reducible first | exact HB.out | apply below_alloc | apply pw_below_drewN | apply below_drew1) | exact HB.out)))); have n1_ := Aside0.mk (below_step (by repeat (first | (with_reducible first | exact HB.out | apply below_alloc | apply pw_below_drewN | apply below_drew1) | exact HB.out)) hb); clear HB; have HO205 := n0_; have HB := n1_; clear n0_ n1_; (try clear hb); (try clear hb2); (try clear hk); (try clear hi); (try clear ho0); obtain ⟨Ao14, co14, eo14⟩ := Kd.R_slice HO205.out; subst eo14) | ((with_reducible refine gate_callee (f := 24) rfl ?_); refine goesL_ (some 12) rfl rfl Try.func24 (by kernel_rfl) rfl #[.slice Ao14 t203.length co14] rfl (by (try simp only [List.map_toArray, List.map_cons, List.map_nil]); first | done | rfl | (simp only [List.length_drop, List.length_take]; rfl)) ?_; (with_reducible refine (ip_Parse.calls k _ _ t203 t207 t208 t209 t210 t211 t212 t213 t214 t215 t216 t219 t222 _ ?side1 ?side2 A2.out).mono ?_); (case side1 => repeat (first | exact (Kd.R_reads' HO205.out).2.2 | (with_reducible refine Kd.C_alloc ?_ _) | (with_reducible refine Kd.C_drewN ?_ _) | (with_reducible refine Kd.C_drew ?_))); (case side2 => exact (Kd.R_reads' HO205.out).2.1); rintro e w15 ⟨v217, v220, rfl, ho0, ho1, hb⟩; refine ⟨_, rfl, ?_⟩; have n0_ := Aside0.mk (Kd.R_mono (Kd.R_told (Kd.R_told (Kd.R_old (by (with_reducible repeat (first | apply Kd.R_alloc | apply Kd.R_drewN | apply Kd.R_drew)); exact HO205.out) hb) (Kd.R_base ho0)) (Kd.R_base ho1)) (fun _ h_ => h_.1)); have n1_ := Aside0.mk (Kd.R_lower (Kd.R_new' ho0 (Kd.R_lt (by (with_reducible repeat (first | apply Kd.R_alloc | apply Kd.R_drewN | apply Kd.R_drew)); exact HO205.out))) (below_size (by repeat (first | (with_reducible first | exact HB.out | apply below_alloc | apply pw_below_drewN | apply below_drew1) | exact HB.out)))); have n2_ := Aside0.mk (Kd.R_lower (Kd.R_new' ho1 (Kd.R_lt (by (with_reducible repeat (first | apply Kd.R_alloc | apply Kd.R_drewN | apply Kd.R_drew)); exact HO205.out))) (below_size (by repeat (first | (with_reducible first | exact HB.out | apply below_alloc | apply pw_below_drewN | apply below_drew1) | exact HB.out)))); have n3_ := Aside0.mk (below_step (by repeat (first | (with_reducible first | exact HB.out | apply below_alloc | apply pw_below_drewN | apply below_drew1) | exact HB.out)) hb); clear HO205; clear HB; have HO205 := n0_; have HO218 := n1_; have HO221 := n2_; have HB := n3_; clear n0_ n1_ n2_ n3_; (try clear hb); (try clear hb2); (try clear hk); (try clear hi); (try clear ho0); (try clear ho1)) | ((with_reducible refine gate_dst (N := 3) rfl ?_); (try (refine gate_guard (by rfl) ?_; dsimp only)); refine box_event ?hg (N := 3) ?hd (cs := #[.int .i64 0, .int .i64 0, .bool false, .bool false, .int .i64 0, .int .i64 0, .int .i64 0, .int .u32 0, .int .u32 0, .slice none 0 0, .slice none 0 0]) (t := 45) ?hr ?_; (case hd => rfl); (case hg => rfl); (case hr => first | (go_simp; done) | (go_simp; rfl)); intro gb223 hg w16 hbox hb; have n0_ := Aside0.mk (Kd.R_below (by (with_reducible repeat (first | apply Kd.R_alloc | apply Kd.R_drewN | apply Kd.R_drew)); exact HO205.out) hb); have n1_ := Aside0.mk (Kd.R_below (by (with_reducible repeat (first | apply Kd.R_alloc | apply Kd.R_drewN | apply Kd.R_drew)); exact HO218.out) hb); have n2_ := Aside0.mk (Kd.R_below (by (with_reducible repeat (first | apply Kd.R_alloc | apply Kd.R_drewN | apply Kd.R_drew)); exact HO221.out) hb); have n3_ := Aside0.mk (below_step (by repeat (first | (with_reducible first | exact HB.out | apply below_alloc | apply pw_below_drewN | apply below_drew1) | exact HB.out)) hb); have n4_ := Aside0.mk (hbox); have n5_ := Aside0.mk ((by rw [hg]; exact (below_size (by repeat (first | (with_reducible first | exact HB.out | apply below_alloc | apply pw_below_drewN | apply below_drew1) | exact HB.out))) : w.heap.size ≤ gb223)); have n6_ := Aside0.mk ((by rw [hg]; exact (below_size (by repeat (first | (with_reducible first | exact HB.out | apply below_alloc | apply pw_below_drewN | apply below_drew1) | exact HB.out))) : w.heap.size ≤ gb223)); clear HO205; clear HO218; clear HO221; clear HB; have HO205 := n0_; have HO218 := n1_; have HO221 := n2_; have HB := n3_; have BK223 := n4_; have GW223 := n5_; have GE223 := n6_; clear n0_ n1_ n2_ n3_ n4_ n5_ n6_; clear hb hbox hg; have hcz17_0 : w16.cell? ⟨gb223, 0, none⟩ = some (.int .i64 0) := (blk_cell BK223.out 0).trans rfl; have hcz17_1 : w16.cell? ⟨gb223, 1, none⟩ = some (.int .i64 0) := (blk_cell BK223.out 1).trans rfl; have hcz17_2 : w16.cell? ⟨gb223, 2, none⟩ = some (.bool false) := (blk_cell BK223.out 2).trans rfl; have hcz17_3 : w16.cell? ⟨gb223, 3, none⟩ = some (.bool false) := (blk_cell BK223.out 3).trans rfl; have hcz17_4 : w16.cell? ⟨gb223, 4, none⟩ = some (.int .i64 0) := (blk_cell BK223.out 4).trans rfl; have hcz17_5 : w16.cell? ⟨gb223, 5, none⟩ = some (.int .i64 0) := (blk_cell BK223.out 5).trans rfl; have hcz17_6 : w16.cell? ⟨gb223, 6, none⟩ = some (.int .i64 0) := (blk_cell BK223.out 6).trans rfl; have hcz17_7 : w16.cell? ⟨gb223, 7, none⟩ = some (.int .u32 0) := (blk_cell BK223.out 7).trans rfl; have hcz17_8 : w16.cell? ⟨gb223, 8, none⟩ = some (.int .u32 0) := (blk_cell BK223.out 8).trans rfl; have hcz17_9 : w16.cell? ⟨gb223, 9, none⟩ = some (.slice none 0 0) := (blk_cell BK223.out 9).trans rfl; have hcz17_10 : w16.cell? ⟨gb223, 10, none⟩ = some (.slice none 0 0) := (blk_cell BK223.out 10).trans rfl; have hfz17_0 := blk_frozen BK223.out 0; have hfz17_1 := blk_frozen BK223.out 1; have hfz17_2 := blk_frozen BK223.out 2; have hfz17_3 := blk_frozen BK223.out 3; have hfz17_4 := blk_frozen BK223.out 4; have hfz17_5 := blk_frozen BK223.out 5; have hfz17_6 := blk_frozen BK223.out 6; have hfz17_7 := blk_frozen BK223.out 7; have hfz17_8 := blk_frozen BK223.out 8; have hfz17_9 := blk_frozen BK223.out 9; have hfz17_10 := blk_frozen BK223.out 10; obtain ⟨Ao18, co18, eo18⟩ := Kd.R_slice HO218.out; subst eo18; obtain ⟨Ao19, co19, eo19⟩ := Kd.R_slice HO221.out; subst eo19))
        go_ret
        exact ⟨by first | rfl | (simp [errW_none, errW_some] <;> rfl) | (simp [*, errW_none, errW_some] <;> rfl), by repeat (first | (with_reducible first | exact HB.out | apply below_alloc | apply pw_below_drewN | apply below_drew1 | refine below_set ?_ GE223.out) | exact HB.out)⟩
    · rw [if_neg c4] at H
      have c4b0 : ((t203.length : Int) == 20) = false := beq_eq_false_iff_ne.mpr c4
      have c4b1 : ((t203.length : Int) != 20) = true := bne_iff_ne.mpr c4
      obtain rfl := Option.some.inj H
      go_enter Try.func29, Try.ntmps29
      go_wp2_with (first | ((with_reducible refine gate_callee (f := 32) rfl ?_); refine goesL_ (some 7) rfl rfl Try.func32 (by kernel_rfl) rfl #[.agg #[.int .i64 0, .int .i64 0, .bool false, .bool false, .int .i64 0, .int .i64 5, .int .i64 0, .int .u32 0, .int .u32 0, .slice none 0 0, .slice none 0 0]] rfl (by (try simp only [List.map_toArray, List.map_cons, List.map_nil]); first | done | rfl | (simp only [List.length_drop, List.length_take]; rfl)) ?_; (refine (ip_Build.calls k 0 0 false false 0 5 0 0 0 (fun k_ => False) _ _ ([] : List Int) _ _ ([] : List Int) t203 t206 _ ?side1 ?side2 ?side3 A1.out).mono ?_); (case side1 => exact Kd.V_nil _ _ _ _ _); (case side2 => exact Kd.C_nil _ _); (case side3 => exact Nat.le_refl _); rintro e w20 ⟨v204, rfl, ho0, hb⟩; refine ⟨_, rfl, ?_⟩; have n0_ := Aside0.mk (Kd.R_lower (Kd.R_mono (ok' := fun k_ => True) ho0 (fun _ hk_ => trivial)) (below_size (by repeat (first | (with_reducible first | exact HB.out | apply below_alloc | apply pw_below_drewN | apply below_drew1) | exact HB.out)))); have n1_ := Aside0.mk (below_step (by repeat (first | (with_reducible first | exact HB.out | apply below_alloc | apply pw_below_drewN | apply below_drew1) | exact HB.out)) hb); clear HB; have HO205 := n0_; have HB := n1_; clear n0_ n1_; (try clear hb); (try clear hb2); (try clear hk); (try clear hi); (try clear ho0); obtain ⟨Ao21, co21, eo21⟩ := Kd.R_slice HO205.out; subst eo21) | ((with_reducible refine gate_callee (f := 24) rfl ?_); refine goesL_ (some 12) rfl rfl Try.func24 (by kernel_rfl) rfl #[.slice Ao21 t203.length co21] rfl (by (try simp only [List.map_toArray, List.map_cons, List.map_nil]); first | done | rfl | (simp only [List.length_drop, List.length_take]; rfl)) ?_; (with_reducible refine (ip_Parse.calls k _ _ t203 t207 t208 t209 t210 t211 t212 t213 t214 t215 t216 t219 t222 _ ?side1 ?side2 A2.out).mono ?_); (case side1 => repeat (first | exact (Kd.R_reads' HO205.out).2.2 | (with_reducible refine Kd.C_alloc ?_ _) | (with_reducible refine Kd.C_drewN ?_ _) | (with_reducible refine Kd.C_drew ?_))); (case side2 => exact (Kd.R_reads' HO205.out).2.1); rintro e w22 ⟨v217, v220, rfl, ho0, ho1, hb⟩; refine ⟨_, rfl, ?_⟩; have n0_ := Aside0.mk (Kd.R_mono (Kd.R_told (Kd.R_told (Kd.R_old (by (with_reducible repeat (first | apply Kd.R_alloc | apply Kd.R_drewN | apply Kd.R_drew)); exact HO205.out) hb) (Kd.R_base ho0)) (Kd.R_base ho1)) (fun _ h_ => h_.1)); have n1_ := Aside0.mk (Kd.R_lower (Kd.R_new' ho0 (Kd.R_lt (by (with_reducible repeat (first | apply Kd.R_alloc | apply Kd.R_drewN | apply Kd.R_drew)); exact HO205.out))) (below_size (by repeat (first | (with_reducible first | exact HB.out | apply below_alloc | apply pw_below_drewN | apply below_drew1) | exact HB.out)))); have n2_ := Aside0.mk (Kd.R_lower (Kd.R_new' ho1 (Kd.R_lt (by (with_reducible repeat (first | apply Kd.R_alloc | apply Kd.R_drewN | apply Kd.R_drew)); exact HO205.out))) (below_size (by repeat (first | (with_reducible first | exact HB.out | apply below_alloc | apply pw_below_drewN | apply below_drew1) | exact HB.out)))); have n3_ := Aside0.mk (below_step (by repeat (first | (with_reducible first | exact HB.out | apply below_alloc | apply pw_below_drewN | apply below_drew1) | exact HB.out)) hb); clear HO205; clear HB; have HO205 := n0_; have HO218 := n1_; have HO221 := n2_; have HB := n3_; clear n0_ n1_ n2_ n3_; (try clear hb); (try clear hb2); (try clear hk); (try clear hi); (try clear ho0); (try clear ho1)) | ((with_reducible refine gate_dst (N := 3) rfl ?_); (try (refine gate_guard (by rfl) ?_; dsimp only)); refine box_event ?hg (N := 3) ?hd (cs := #[.int .i64 0, .int .i64 0, .bool false, .bool false, .int .i64 0, .int .i64 0, .int .i64 0, .int .u32 0, .int .u32 0, .slice none 0 0, .slice none 0 0]) (t := 45) ?hr ?_; (case hd => rfl); (case hg => rfl); (case hr => first | (go_simp; done) | (go_simp; rfl)); intro gb223 hg w23 hbox hb; have n0_ := Aside0.mk (Kd.R_below (by (with_reducible repeat (first | apply Kd.R_alloc | apply Kd.R_drewN | apply Kd.R_drew)); exact HO205.out) hb); have n1_ := Aside0.mk (Kd.R_below (by (with_reducible repeat (first | apply Kd.R_alloc | apply Kd.R_drewN | apply Kd.R_drew)); exact HO218.out) hb); have n2_ := Aside0.mk (Kd.R_below (by (with_reducible repeat (first | apply Kd.R_alloc | apply Kd.R_drewN | apply Kd.R_drew)); exact HO221.out) hb); have n3_ := Aside0.mk (below_step (by repeat (first | (with_reducible first | exact HB.out | apply below_alloc | apply pw_below_drewN | apply below_drew1) | exact HB.out)) hb); have n4_ := Aside0.mk (hbox); have n5_ := Aside0.mk ((by rw [hg]; exact (below_size (by repeat (first | (with_reducible first | exact HB.out | apply below_alloc | apply pw_below_drewN | apply below_drew1) | exact HB.out))) : w.heap.size ≤ gb223)); have n6_ := Aside0.mk ((by rw [hg]; exact (below_size (by repeat (first | (with_reducible first | exact HB.out | apply below_alloc | apply pw_below_drewN | apply below_drew1) | exact HB.out))) : w.heap.size ≤ gb223)); clear HO205; clear HO218; clear HO221; clear HB; have HO205 := n0_; have HO218 := n1_; have HO221 := n2_; have HB := n3_; have BK223 := n4_; have GW223 := n5_; have GE223 := n6_; clear n0_ n1_ n2_ n3_ n4_ n5_ n6_; clear hb hbox hg; have hcz24_0 : w23.cell? ⟨gb223, 0, none⟩ = some (.int .i64 0) := (blk_cell BK223.out 0).trans rfl; have hcz24_1 : w23.cell? ⟨gb223, 1, none⟩ = some (.int .i64 0) := (blk_cell BK223.out 1).trans rfl; have hcz24_2 : w23.cell? ⟨gb223, 2, none⟩ = some (.bool false) := (blk_cell BK223.out 2).trans rfl; have hcz24_3 : w23.cell? ⟨gb223, 3, none⟩ = some (.bool false) := (blk_cell BK223.out 3).trans rfl; have hcz24_4 : w23.cell? ⟨gb223, 4, none⟩ = some (.int .i64 0) := (blk_cell BK223.out 4).trans rfl; have hcz24_5 : w23.cell? ⟨gb223, 5, none⟩ = some (.int .i64 0) := (blk_cell BK223.out 5).trans rfl; have hcz24_6 : w23.cell? ⟨gb223, 6, none⟩ = some (.int .i64 0) := (blk_cell BK223.out 6).trans rfl; have hcz24_7 : w23.cell? ⟨gb223, 7, none⟩ = some (.int .u32 0) := (blk_cell BK223.out 7).trans rfl; have hcz24_8 : w23.cell? ⟨gb223, 8, none⟩ = some (.int .u32 0) := (blk_cell BK223.out 8).trans rfl; have hcz24_9 : w23.cell? ⟨gb223, 9, none⟩ = some (.slice none 0 0) := (blk_cell BK223.out 9).trans rfl; have hcz24_10 : w23.cell? ⟨gb223, 10, none⟩ = some (.slice none 0 0) := (blk_cell BK223.out 10).trans rfl; have hfz24_0 := blk_frozen BK223.out 0; have hfz24_1 := blk_frozen BK223.out 1; have hfz24_2 := blk_frozen BK223.out 2; have hfz24_3 := blk_frozen BK223.out 3; have hfz24_4 := blk_frozen BK223.out 4; have hfz24_5 := blk_frozen BK223.out 5; have hfz24_6 := blk_frozen BK223.out 6; have hfz24_7 := blk_frozen BK223.out 7; have hfz24_8 := blk_frozen BK223.out 8; have hfz24_9 := blk_frozen BK223.out 9; have hfz24_10 := blk_frozen BK223.out 10; obtain ⟨Ao25, co25, eo25⟩ := Kd.R_slice HO218.out; subst eo25; obtain ⟨Ao26, co26, eo26⟩ := Kd.R_slice HO221.out; subst eo26))
      go_ret
      exact ⟨by first | rfl | (simp [errW_none, errW_some] <;> rfl) | (simp [*, errW_none, errW_some] <;> rfl), by repeat (first | (with_reducible first | exact HB.out | apply below_alloc | apply pw_below_drewN | apply below_drew1 | refine below_set ?_ GE223.out) | exact HB.out)⟩
  · rw [if_neg c3] at H
    have c3b0 : (t206 == 0) = false := beq_eq_false_iff_ne.mpr c3
    have c3b1 : (t206 != 0) = true := bne_iff_ne.mpr c3
    obtain rfl := Option.some.inj H
    go_enter Try.func29, Try.ntmps29
    go_wp2_with (first | ((with_reducible refine gate_callee (f := 32) rfl ?_); refine goesL_ (some 7) rfl rfl Try.func32 (by kernel_rfl) rfl #[.agg #[.int .i64 0, .int .i64 0, .bool false, .bool false, .int .i64 0, .int .i64 5, .int .i64 0, .int .u32 0, .int .u32 0, .slice none 0 0, .slice none 0 0]] rfl (by (try simp only [List.map_toArray, List.map_cons, List.map_nil]); first | done | rfl | (simp only [List.length_drop, List.length_take]; rfl)) ?_; (refine (ip_Build.calls k 0 0 false false 0 5 0 0 0 (fun k_ => False) _ _ ([] : List Int) _ _ ([] : List Int) t203 t206 _ ?side1 ?side2 ?side3 A1.out).mono ?_); (case side1 => exact Kd.V_nil _ _ _ _ _); (case side2 => exact Kd.C_nil _ _); (case side3 => exact Nat.le_refl _); rintro e w27 ⟨v204, rfl, ho0, hb⟩; refine ⟨_, rfl, ?_⟩; have n0_ := Aside0.mk (Kd.R_lower (Kd.R_mono (ok' := fun k_ => True) ho0 (fun _ hk_ => trivial)) (below_size (by repeat (first | (with_reducible first | exact HB.out | apply below_alloc | apply pw_below_drewN | apply below_drew1) | exact HB.out)))); have n1_ := Aside0.mk (below_step (by repeat (first | (with_reducible first | exact HB.out | apply below_alloc | apply pw_below_drewN | apply below_drew1) | exact HB.out)) hb); clear HB; have HO205 := n0_; have HB := n1_; clear n0_ n1_; (try clear hb); (try clear hb2); (try clear hk); (try clear hi); (try clear ho0); obtain ⟨Ao28, co28, eo28⟩ := Kd.R_slice HO205.out; subst eo28) | ((with_reducible refine gate_callee (f := 24) rfl ?_); refine goesL_ (some 12) rfl rfl Try.func24 (by kernel_rfl) rfl #[.slice Ao28 t203.length co28] rfl (by (try simp only [List.map_toArray, List.map_cons, List.map_nil]); first | done | rfl | (simp only [List.length_drop, List.length_take]; rfl)) ?_; (with_reducible refine (ip_Parse.calls k _ _ t203 t207 t208 t209 t210 t211 t212 t213 t214 t215 t216 t219 t222 _ ?side1 ?side2 A2.out).mono ?_); (case side1 => repeat (first | exact (Kd.R_reads' HO205.out).2.2 | (with_reducible refine Kd.C_alloc ?_ _) | (with_reducible refine Kd.C_drewN ?_ _) | (with_reducible refine Kd.C_drew ?_))); (case side2 => exact (Kd.R_reads' HO205.out).2.1); rintro e w29 ⟨v217, v220, rfl, ho0, ho1, hb⟩; refine ⟨_, rfl, ?_⟩; have n0_ := Aside0.mk (Kd.R_mono (Kd.R_told (Kd.R_told (Kd.R_old (by (with_reducible repeat (first | apply Kd.R_alloc | apply Kd.R_drewN | apply Kd.R_drew)); exact HO205.out) hb) (Kd.R_base ho0)) (Kd.R_base ho1)) (fun _ h_ => h_.1)); have n1_ := Aside0.mk (Kd.R_lower (Kd.R_new' ho0 (Kd.R_lt (by (with_reducible repeat (first | apply Kd.R_alloc | apply Kd.R_drewN | apply Kd.R_drew)); exact HO205.out))) (below_size (by repeat (first | (with_reducible first | exact HB.out | apply below_alloc | apply pw_below_drewN | apply below_drew1) | exact HB.out)))); have n2_ := Aside0.mk (Kd.R_lower (Kd.R_new' ho1 (Kd.R_lt (by (with_reducible repeat (first | apply Kd.R_alloc | apply Kd.R_drewN | apply Kd.R_drew)); exact HO205.out))) (below_size (by repeat (first | (with_reducible first | exact HB.out | apply below_alloc | apply pw_below_drewN | apply below_drew1) | exact HB.out)))); have n3_ := Aside0.mk (below_step (by repeat (first | (with_reducible first | exact HB.out | apply below_alloc | apply pw_below_drewN | apply below_drew1) | exact HB.out)) hb); clear HO205; clear HB; have HO205 := n0_; have HO218 := n1_; have HO221 := n2_; have HB := n3_; clear n0_ n1_ n2_ n3_; (try clear hb); (try clear hb2); (try clear hk); (try clear hi); (try clear ho0); (try clear ho1)) | ((with_reducible refine gate_dst (N := 3) rfl ?_); (try (refine gate_guard (by rfl) ?_; dsimp only)); refine box_event ?hg (N := 3) ?hd (cs := #[.int .i64 0, .int .i64 0, .bool false, .bool false, .int .i64 0, .int .i64 0, .int .i64 0, .int .u32 0, .int .u32 0, .slice none 0 0, .slice none 0 0]) (t := 45) ?hr ?_; (case hd => rfl); (case hg => rfl); (case hr => first | (go_simp; done) | (go_simp; rfl)); intro gb223 hg w30 hbox hb; have n0_ := Aside0.mk (Kd.R_below (by (with_reducible repeat (first | apply Kd.R_alloc | apply Kd.R_drewN | apply Kd.R_drew)); exact HO205.out) hb); have n1_ := Aside0.mk (Kd.R_below (by (with_reducible repeat (first | apply Kd.R_alloc | apply Kd.R_drewN | apply Kd.R_drew)); exact HO218.out) hb); have n2_ := Aside0.mk (Kd.R_below (by (with_reducible repeat (first | apply Kd.R_alloc | apply Kd.R_drewN | apply Kd.R_drew)); exact HO221.out) hb); have n3_ := Aside0.mk (below_step (by repeat (first | (with_reducible first | exact HB.out | apply below_alloc | apply pw_below_drewN | apply below_drew1) | exact HB.out)) hb); have n4_ := Aside0.mk (hbox); have n5_ := Aside0.mk ((by rw [hg]; exact (below_size (by repeat (first | (with_reducible first | exact HB.out | apply below_alloc | apply pw_below_drewN | apply below_drew1) | exact HB.out))) : w.heap.size ≤ gb223)); have n6_ := Aside0.mk ((by rw [hg]; exact (below_size (by repeat (first | (with_reducible first | exact HB.out | apply below_alloc | apply pw_below_drewN | apply below_drew1) | exact HB.out))) : w.heap.size ≤ gb223)); clear HO205; clear HO218; clear HO221; clear HB; have HO205 := n0_; have HO218 := n1_; have HO221 := n2_; have HB := n3_; have BK223 := n4_; have GW223 := n5_; have GE223 := n6_; clear n0_ n1_ n2_ n3_ n4_ n5_ n6_; clear hb hbox hg; have hcz31_0 : w30.cell? ⟨gb223, 0, none⟩ = some (.int .i64 0) := (blk_cell BK223.out 0).trans rfl; have hcz31_1 : w30.cell? ⟨gb223, 1, none⟩ = some (.int .i64 0) := (blk_cell BK223.out 1).trans rfl; have hcz31_2 : w30.cell? ⟨gb223, 2, none⟩ = some (.bool false) := (blk_cell BK223.out 2).trans rfl; have hcz31_3 : w30.cell? ⟨gb223, 3, none⟩ = some (.bool false) := (blk_cell BK223.out 3).trans rfl; have hcz31_4 : w30.cell? ⟨gb223, 4, none⟩ = some (.int .i64 0) := (blk_cell BK223.out 4).trans rfl; have hcz31_5 : w30.cell? ⟨gb223, 5, none⟩ = some (.int .i64 0) := (blk_cell BK223.out 5).trans rfl; have hcz31_6 : w30.cell? ⟨gb223, 6, none⟩ = some (.int .i64 0) := (blk_cell BK223.out 6).trans rfl; have hcz31_7 : w30.cell? ⟨gb223, 7, none⟩ = some (.int .u32 0) := (blk_cell BK223.out 7).trans rfl; have hcz31_8 : w30.cell? ⟨gb223, 8, none⟩ = some (.int .u32 0) := (blk_cell BK223.out 8).trans rfl; have hcz31_9 : w30.cell? ⟨gb223, 9, none⟩ = some (.slice none 0 0) := (blk_cell BK223.out 9).trans rfl; have hcz31_10 : w30.cell? ⟨gb223, 10, none⟩ = some (.slice none 0 0) := (blk_cell BK223.out 10).trans rfl; have hfz31_0 := blk_frozen BK223.out 0; have hfz31_1 := blk_frozen BK223.out 1; have hfz31_2 := blk_frozen BK223.out 2; have hfz31_3 := blk_frozen BK223.out 3; have hfz31_4 := blk_frozen BK223.out 4; have hfz31_5 := blk_frozen BK223.out 5; have hfz31_6 := blk_frozen BK223.out 6; have hfz31_7 := blk_frozen BK223.out 7; have hfz31_8 := blk_frozen BK223.out 8; have hfz31_9 := blk_frozen BK223.out 9; have hfz31_10 := blk_frozen BK223.out 10; obtain ⟨Ao32, co32, eo32⟩ := Kd.R_slice HO218.out; subst eo32; obtain ⟨Ao33, co33, eo33⟩ := Kd.R_slice HO221.out; subst eo33))
    go_ret
    exact ⟨by first | rfl | (simp [errW_none, errW_some] <;> rfl) | (simp [*, errW_none, errW_some] <;> rfl), by repeat (first | (with_reducible first | exact HB.out | apply below_alloc | apply pw_below_drewN | apply below_drew1 | refine below_set ?_ GE223.out) | exact HB.out)⟩

/-! ### castellanlaw4_long: function 30 -/
def castellanlaw4_long.f (a0_0 : Int) (a0_1 : Int) (a0_2 : Bool) (a0_3 : Bool) (a0_4 : Int) (a0_5 : Int) (a0_6 : Int) (a0_7 : Int) (a0_8 : Int) (l0_9 : List Int) (l0_10 : List Int) : Option (Bool) := if (l0_9.length : Int) > 60 then (some true) else (some (decide ((l0_10.length : Int) > 1500)))
set_option maxHeartbeats 8000000 in
set_option maxRecDepth 100000 in
theorem castellanlaw4_long.calls (a0_0 : Int) (a0_1 : Int) (a0_2 : Bool) (a0_3 : Bool) (a0_4 : Int) (a0_5 : Int) (a0_6 : Int) (a0_7 : Int) (a0_8 : Int) (A0_9 : Option Addr) (c0_9 : Nat) (l0_9 : List Int) (A0_10 : Option Addr) (c0_10 : Nat) (l0_10 : List Int) (r : Bool) (w : World) (hr0_9 : Kd.C (Kd.int .u8) w A0_9 l0_9.length l0_9) (hc0_9 : l0_9.length ≤ c0_9) (hr0_10 : Kd.C (Kd.int .u8) w A0_10 l0_10.length l0_10) (hc0_10 : l0_10.length ≤ c0_10) (h : castellanlaw4_long.f a0_0 a0_1 a0_2 a0_3 a0_4 a0_5 a0_6 a0_7 a0_8 l0_9 l0_10 = some r) :
    Calls Try.prog 30 #[.agg #[.int .i64 a0_0, .int .i64 a0_1, .bool a0_2, .bool a0_3, .int .i64 a0_4, .int .i64 a0_5, .int .i64 a0_6, .int .u32 a0_7, .int .u32 a0_8, .slice A0_9 l0_9.length c0_9, .slice A0_10 l0_10.length c0_10]] w fun e w' => e = .returned (.bool r) ∧ Below w.heap.size w w' := by
  have hu45 := Try.underlying45
  have HR0_9 := Aside0.mk hr0_9
  have HC0_9 := Aside0.mk hc0_9
  clear hr0_9 hc0_9
  have HR0_10 := Aside0.mk hr0_10
  have HC0_10 := Aside0.mk hc0_10
  clear hr0_10 hc0_10
  have HB := Aside0.mk (Below.refl w.heap.size w)
  have H : (if (l0_9.length : Int) > 60 then (some true) else (some (decide ((l0_10.length : Int) > 1500)))) = some r := h
  clear h
  by_cases c2 : (l0_9.length : Int) > 60
  · rw [if_pos c2] at H
    have c2b0 : decide (60 < (l0_9.length : Int)) = true := decide_eq_true c2
    have c2b1 : decide (60 < l0_9.length) = true := decide_eq_true (by omega)
    clear c2
    obtain rfl := Option.some.inj H
    go_enter Try.func30, Try.ntmps30
    go_wp2_with (first | ((with_reducible refine gate_dst (N := 1) rfl ?_); (try (refine gate_guard (by rfl) ?_; dsimp only)); refine box_event ?hg (N := 1) ?hd (cs := #[.int .i64 a0_0, .int .i64 a0_1, .bool a0_2, .bool a0_3, .int .i64 a0_4, .int .i64 a0_5, .int .i64 a0_6, .int .u32 a0_7, .int .u32 a0_8, .slice A0_9 l0_9.length c0_9, .slice A0_10 l0_10.length c0_10]) (t := 45) ?hr ?_; (case hd => rfl); (case hg => rfl); (case hr => first | (go_simp; done) | (go_simp; rfl)); intro gb224 hg w3 hbox hb; have n0_ := Aside0.mk (below_step (by repeat (first | (with_reducible first | exact HB.out | apply below_alloc | apply pw_below_drewN | apply below_drew1) | exact HB.out)) hb); have n1_ := Aside0.mk (hbox); have n2_ := Aside0.mk ((by rw [hg]; exact (below_size (by repeat (first | (with_reducible first | exact HB.out | apply below_alloc | apply pw_below_drewN | apply below_drew1) | exact HB.out))) : w.heap.size ≤ gb224)); have n3_ := Aside0.mk ((by rw [hg]; exact (below_size (by repeat (first | (with_reducible first | exact HB.out | apply below_alloc | apply pw_below_drewN | apply below_drew1) | exact HB.out))) : w.heap.size ≤ gb224)); clear HB; have HB := n0_; have BK224 := n1_; have GW224 := n2_; have GE224 := n3_; clear n0_ n1_ n2_ n3_; clear hb hbox hg; have hcz4_0 : w3.cell? ⟨gb224, 0, none⟩ = some (.int .i64 a0_0) := (blk_cell BK224.out 0).trans rfl; have hcz4_1 : w3.cell? ⟨gb224, 1, none⟩ = some (.int .i64 a0_1) := (blk_cell BK224.out 1).trans rfl; have hcz4_2 : w3.cell? ⟨gb224, 2, none⟩ = some (.bool a0_2) := (blk_cell BK224.out 2).trans rfl; have hcz4_3 : w3.cell? ⟨gb224, 3, none⟩ = some (.bool a0_3) := (blk_cell BK224.out 3).trans rfl; have hcz4_4 : w3.cell? ⟨gb224, 4, none⟩ = some (.int .i64 a0_4) := (blk_cell BK224.out 4).trans rfl; have hcz4_5 : w3.cell? ⟨gb224, 5, none⟩ = some (.int .i64 a0_5) := (blk_cell BK224.out 5).trans rfl; have hcz4_6 : w3.cell? ⟨gb224, 6, none⟩ = some (.int .i64 a0_6) := (blk_cell BK224.out 6).trans rfl; have hcz4_7 : w3.cell? ⟨gb224, 7, none⟩ = some (.int .u32 a0_7) := (blk_cell BK224.out 7).trans rfl; have hcz4_8 : w3.cell? ⟨gb224, 8, none⟩ = some (.int .u32 a0_8) := (blk_cell BK224.out 8).trans rfl; have hcz4_9 : w3.cell? ⟨gb224, 9, none⟩ = some (.slice A0_9 l0_9.length c0_9) := (blk_cell BK224.out 9).trans rfl; have hcz4_10 : w3.cell? ⟨gb224, 10, none⟩ = some (.slice A0_10 l0_10.length c0_10) := (blk_cell BK224.out 10).trans rfl; have hfz4_0 := blk_frozen BK224.out 0; have hfz4_1 := blk_frozen BK224.out 1; have hfz4_2 := blk_frozen BK224.out 2; have hfz4_3 := blk_frozen BK224.out 3; have hfz4_4 := blk_frozen BK224.out 4; have hfz4_5 := blk_frozen BK224.out 5; have hfz4_6 := blk_frozen BK224.out 6; have hfz4_7 := blk_frozen BK224.out 7; have hfz4_8 := blk_frozen BK224.out 8; have hfz4_9 := blk_frozen BK224.out 9; have hfz4_10 := blk_frozen BK224.out 10))
    go_ret
    exact ⟨by first | rfl | (simp [errW_none, errW_some] <;> rfl) | (simp [*, errW_none, errW_some] <;> rfl), by repeat (first | (with_reducible first | exact HB.out | apply below_alloc | apply pw_below_drewN | apply below_drew1 | refine below_set ?_ GE224.out) | exact HB.out)⟩
  · rw [if_neg c2] at H
    have c2b0 : decide (60 < (l0_9.length : Int)) = false := decide_eq_false c2
    have c2b1 : decide (60 < l0_9.length) = false := decide_eq_false (by omega)
    clear c2
    obtain rfl := Option.some.inj H
    go_enter Try.func30, Try.ntmps30
    go_wp2_with (first | ((with_reducible refine gate_dst (N := 1) rfl ?_); (try (refine gate_guard (by rfl) ?_; dsimp only)); refine box_event ?hg (N := 1) ?hd (cs := #[.int .i64 a0_0, .int .i64 a0_1, .bool a0_2, .bool a0_3, .int .i64 a0_4, .int .i64 a0_5, .int .i64 a0_6, .int .u32 a0_7, .int .u32 a0_8, .slice A0_9 l0_9.length c0_9, .slice A0_10 l0_10.length c0_10]) (t := 45) ?hr ?_; (case hd => rfl); (case hg => rfl); (case hr => first | (go_simp; done) | (go_simp; rfl)); intro gb224 hg w5 hbox hb; have n0_ := Aside0.mk (below_step (by repeat (first | (with_reducible first | exact HB.out | apply below_alloc | apply pw_below_drewN | apply below_drew1) | exact HB.out)) hb); have n1_ := Aside0.mk (hbox); have n2_ := Aside0.mk ((by rw [hg]; exact (below_size (by repeat (first | (with_reducible first | exact HB.out | apply below_alloc | apply pw_below_drewN | apply below_drew1) | exact HB.out))) : w.heap.size ≤ gb224)); have n3_ := Aside0.mk ((by rw [hg]; exact (below_size (by repeat (first | (with_reducible first | exact HB.out | apply below_alloc | apply pw_below_drewN | apply below_drew1) | exact HB.out))) : w.heap.size ≤ gb224)); clear HB; have HB := n0_; have BK224 := n1_; have GW224 := n2_; have GE224 := n3_; clear n0_ n1_ n2_ n3_; clear hb hbox hg; have hcz6_0 : w5.cell? ⟨gb224, 0, none⟩ = some (.int .i64 a0_0) := (blk_cell BK224.out 0).trans rfl; have hcz6_1 : w5.cell? ⟨gb224, 1, none⟩ = some (.int .i64 a0_1) := (blk_cell BK224.out 1).trans rfl; have hcz6_2 : w5.cell? ⟨gb224, 2, none⟩ = some (.bool a0_2) := (blk_cell BK224.out 2).trans rfl; have hcz6_3 : w5.cell? ⟨gb224, 3, none⟩ = some (.bool a0_3) := (blk_cell BK224.out 3).trans rfl; have hcz6_4 : w5.cell? ⟨gb224, 4, none⟩ = some (.int .i64 a0_4) := (blk_cell BK224.out 4).trans rfl; have hcz6_5 : w5.cell? ⟨gb224, 5, none⟩ = some (.int .i64 a0_5) := (blk_cell BK224.out 5).trans rfl; have hcz6_6 : w5.cell? ⟨gb224, 6, none⟩ = some (.int .i64 a0_6) := (blk_cell BK224.out 6).trans rfl; have hcz6_7 : w5.cell? ⟨gb224, 7, none⟩ = some (.int .u32 a0_7) := (blk_cell BK224.out 7).trans rfl; have hcz6_8 : w5.cell? ⟨gb224, 8, none⟩ = some (.int .u32 a0_8) := (blk_cell BK224.out 8).trans rfl; have hcz6_9 : w5.cell? ⟨gb224, 9, none⟩ = some (.slice A0_9 l0_9.length c0_9) := (blk_cell BK224.out 9).trans rfl; have hcz6_10 : w5.cell? ⟨gb224, 10, none⟩ = some (.slice A0_10 l0_10.length c0_10) := (blk_cell BK224.out 10).trans rfl; have hfz6_0 := blk_frozen BK224.out 0; have hfz6_1 := blk_frozen BK224.out 1; have hfz6_2 := blk_frozen BK224.out 2; have hfz6_3 := blk_frozen BK224.out 3; have hfz6_4 := blk_frozen BK224.out 4; have hfz6_5 := blk_frozen BK224.out 5; have hfz6_6 := blk_frozen BK224.out 6; have hfz6_7 := blk_frozen BK224.out 7; have hfz6_8 := blk_frozen BK224.out 8; have hfz6_9 := blk_frozen BK224.out 9; have hfz6_10 := blk_frozen BK224.out 10))
    go_ret
    exact ⟨by first | rfl | (simp [errW_none, errW_some] <;> rfl) | (simp [*, errW_none, errW_some] <;> rfl), by repeat (first | (with_reducible first | exact HB.out | apply below_alloc | apply pw_below_drewN | apply below_drew1 | refine below_set ?_ GE224.out) | exact HB.out)⟩

/-! ### castellanref4_Is: function 31 -/
def castellanref4_Is.f (a0_0 : Int) (a0_1 : Int) (a0_2 : Bool) (a0_3 : Bool) (a0_4 : Int) (a0_5 : Int) (a0_6 : Int) (a0_7 : Int) (a0_8 : Int) (l0_9 : List Int) (l0_10 : List Int) : Option (Bool) := if a0_0 ≥ 0 then (if a0_0 ≤ 255 then (if a0_5 ≥ 0 then (if a0_5 ≤ 255 then (if a0_6 ≥ 0 then (if a0_6 ≤ 255 then (if a0_1 ≥ 0 then (if a0_1 ≤ 65535 then (if a0_4 ≥ 0 then (if a0_4 ≤ 8191 then (if ((l0_9.length : Int) % 4) = 0 then (some (decide ((l0_9.length : Int) ≤ 40))) else (some false)) else (some false)) else (some false)) else (some false)) else (some false)) else (some false)) else (some false)) else (some false)) else (some false)) else (some false)) else (some false)
set_option maxHeartbeats 8000000 in
set_option maxRecDepth 100000 in
theorem castellanref4_Is.calls (a0_0 : Int) (a0_1 : Int) (a0_2 : Bool) (a0_3 : Bool) (a0_4 : Int) (a0_5 : Int) (a0_6 : Int) (a0_7 : Int) (a0_8 : Int) (A0_9 : Option Addr) (c0_9 : Nat) (l0_9 : List Int) (A0_10 : Option Addr) (c0_10 : Nat) (l0_10 : List Int) (r : Bool) (w : World) (hr0_9 : Kd.C (Kd.int .u8) w A0_9 l0_9.length l0_9) (hc0_9 : l0_9.length ≤ c0_9) (hr0_10 : Kd.C (Kd.int .u8) w A0_10 l0_10.length l0_10) (hc0_10 : l0_10.length ≤ c0_10) (h : castellanref4_Is.f a0_0 a0_1 a0_2 a0_3 a0_4 a0_5 a0_6 a0_7 a0_8 l0_9 l0_10 = some r) :
    Calls Try.prog 31 #[.agg #[.int .i64 a0_0, .int .i64 a0_1, .bool a0_2, .bool a0_3, .int .i64 a0_4, .int .i64 a0_5, .int .i64 a0_6, .int .u32 a0_7, .int .u32 a0_8, .slice A0_9 l0_9.length c0_9, .slice A0_10 l0_10.length c0_10]] w fun e w' => e = .returned (.bool r) ∧ Below w.heap.size w w' := by
  have hu45 := Try.underlying45
  have HR0_9 := Aside0.mk hr0_9
  have HC0_9 := Aside0.mk hc0_9
  clear hr0_9 hc0_9
  have HR0_10 := Aside0.mk hr0_10
  have HC0_10 := Aside0.mk hc0_10
  clear hr0_10 hc0_10
  have HB := Aside0.mk (Below.refl w.heap.size w)
  have H : (if a0_0 ≥ 0 then (if a0_0 ≤ 255 then (if a0_5 ≥ 0 then (if a0_5 ≤ 255 then (if a0_6 ≥ 0 then (if a0_6 ≤ 255 then (if a0_1 ≥ 0 then (if a0_1 ≤ 65535 then (if a0_4 ≥ 0 then (if a0_4 ≤ 8191 then (if ((l0_9.length : Int) % 4) = 0 then (some (decide ((l0_9.length : Int) ≤ 40))) else (some false)) else (some false)) else (some false)) else (some false)) else (some false)) else (some false)) else (some false)) else (some false)) else (some false)) else (some false)) else (some false)) = some r := h
  clear h
  by_cases c2 : a0_0 ≥ 0
  · rw [if_pos c2] at H
    have c2b0 : decide (0 ≤ a0_0) = true := decide_eq_true c2
    clear c2
    by_cases c3 : a0_0 ≤ 255
    · rw [if_pos c3] at H
      have c3b0 : decide (a0_0 ≤ 255) = true := decide_eq_true c3
      clear c3
      by_cases c4 : a0_5 ≥ 0
      · rw [if_pos c4] at H
        have c4b0 : decide (0 ≤ a0_5) = true := decide_eq_true c4
        clear c4
        by_cases c5 : a0_5 ≤ 255
        · rw [if_pos c5] at H
          have c5b0 : decide (a0_5 ≤ 255) = true := decide_eq_true c5
          clear c5
          by_cases c6 : a0_6 ≥ 0
          · rw [if_pos c6] at H
            have c6b0 : decide (0 ≤ a0_6) = true := decide_eq_true c6
            clear c6
            by_cases c7 : a0_6 ≤ 255
            · rw [if_pos c7] at H
              have c7b0 : decide (a0_6 ≤ 255) = true := decide_eq_true c7
              clear c7
              by_cases c8 : a0_1 ≥ 0
              · rw [if_pos c8] at H
                have c8b0 : decide (0 ≤ a0_1) = true := decide_eq_true c8
                clear c8
                by_cases c9 : a0_1 ≤ 65535
                · rw [if_pos c9] at H
                  have c9b0 : decide (a0_1 ≤ 65535) = true := decide_eq_true c9
                  clear c9
                  by_cases c10 : a0_4 ≥ 0
                  · rw [if_pos c10] at H
                    have c10b0 : decide (0 ≤ a0_4) = true := decide_eq_true c10
                    clear c10
                    by_cases c11 : a0_4 ≤ 8191
                    · rw [if_pos c11] at H
                      have c11b0 : decide (a0_4 ≤ 8191) = true := decide_eq_true c11
                      clear c11
                      by_cases c12 : ((l0_9.length : Int) % 4) = 0
                      · rw [if_pos c12] at H
                        have c12b0 : (((l0_9.length : Int) % 4) == 0) = true := beq_iff_eq.mpr c12
                        have c12b1 : (((l0_9.length : Int) % 4) != 0) = false := bne_eq_false_iff_eq.mpr c12
                        clear c12
                        obtain rfl := Option.some.inj H
                        go_enter Try.func31, Try.ntmps31
                        go_wp2_with (first | ((with_reducible refine gate_dst (N := 1) rfl ?_); (try (refine gate_guard (by rfl) ?_; dsimp only)); refine box_event ?hg (N := 1) ?hd (cs := #[.int .i64 a0_0, .int .i64 a0_1, .bool a0_2, .bool a0_3, .int .i64 a0_4, .int .i64 a0_5, .int .i64 a0_6, .int .u32 a0_7, .int .u32 a0_8, .slice A0_9 l0_9.length c0_9, .slice A0_10 l0_10.length c0_10]) (t := 45) ?hr ?_; (case hd => rfl); (case hg => rfl); (case hr => first | (go_simp; done) | (go_simp; rfl)); intro gb225 hg w13 hbox hb; have n0_ := Aside0.mk (below_step (by repeat (first | (with_reducible first | exact HB.out | apply below_alloc | apply pw_below_drewN | apply below_drew1) | exact HB.out)) hb); have n1_ := Aside0.mk (hbox); have n2_ := Aside0.mk ((by rw [hg]; exact (below_size (by repeat (first | (with_reducible first | exact HB.out | apply below_alloc | apply pw_below_drewN | apply below_drew1) | exact HB.out))) : w.heap.size ≤ gb225)); have n3_ := Aside0.mk ((by rw [hg]; exact (below_size (by repeat (first | (with_reducible first | exact HB.out | apply below_alloc | apply pw_below_drewN | apply below_drew1) | exact HB.out))) : w.heap.size ≤ gb225)); clear HB; have HB := n0_; have BK225 := n1_; have GW225 := n2_; have GE225 := n3_; clear n0_ n1_ n2_ n3_; clear hb hbox hg; have hcz14_0 : w13.cell? ⟨gb225, 0, none⟩ = some (.int .i64 a0_0) := (blk_cell BK225.out 0).trans rfl; have hcz14_1 : w13.cell? ⟨gb225, 1, none⟩ = some (.int .i64 a0_1) := (blk_cell BK225.out 1).trans rfl; have hcz14_2 : w13.cell? ⟨gb225, 2, none⟩ = some (.bool a0_2) := (blk_cell BK225.out 2).trans rfl; have hcz14_3 : w13.cell? ⟨gb225, 3, none⟩ = some (.bool a0_3) := (blk_cell BK225.out 3).trans rfl; have hcz14_4 : w13.cell? ⟨gb225, 4, none⟩ = some (.int .i64 a0_4) := (blk_cell BK225.out 4).trans rfl; have hcz14_5 : w13.cell? ⟨gb225, 5, none⟩ = some (.int .i64 a0_5) := (blk_cell BK225.out 5).trans rfl; have hcz14_6 : w13.cell? ⟨gb225, 6, none⟩ = some (.int .i64 a0_6) := (blk_cell BK225.out 6).trans rfl; have hcz14_7 : w13.cell? ⟨gb225, 7, none⟩ = some (.int .u32 a0_7) := (blk_cell BK225.out 7).trans rfl; have hcz14_8 : w13.cell? ⟨gb225, 8, none⟩ = some (.int .u32 a0_8) := (blk_cell BK225.out 8).trans rfl; have hcz14_9 : w13.cell? ⟨gb225, 9, none⟩ = some (.slice A0_9 l0_9.length c0_9) := (blk_cell BK225.out 9).trans rfl; have hcz14_10 : w13.cell? ⟨gb225, 10, none⟩ = some (.slice A0_10 l0_10.length c0_10) := (blk_cell BK225.out 10).trans rfl; have hfz14_0 := blk_frozen BK225.out 0; have hfz14_1 := blk_frozen BK225.out 1; have hfz14_2 := blk_frozen BK225.out 2; have hfz14_3 := blk_frozen BK225.out 3; have hfz14_4 := blk_frozen BK225.out 4; have hfz14_5 := blk_frozen BK225.out 5; have hfz14_6 := blk_frozen BK225.out 6; have hfz14_7 := blk_frozen BK225.out 7; have hfz14_8 := blk_frozen BK225.out 8; have hfz14_9 := blk_frozen BK225.out 9; have hfz14_10 := blk_frozen BK225.out 10))
                        go_ret
                        exact ⟨by first | rfl | (simp [errW_none, errW_some] <;> rfl) | (simp [*, errW_none, errW_some] <;> rfl), by repeat (first | (with_reducible first | exact HB.out | apply below_alloc | apply pw_below_drewN | apply below_drew1 | refine below_set ?_ GE225.out) | exact HB.out)⟩
                      · rw [if_neg c12] at H
                        have c12b0 : (((l0_9.length : Int) % 4) == 0) = false := beq_eq_false_iff_ne.mpr c12
                        have c12b1 : (((l0_9.length : Int) % 4) != 0) = true := bne_iff_ne.mpr c12
                        obtain rfl := Option.some.inj H
                        go_enter Try.func31, Try.ntmps31
                        go_wp2_with (first | ((with_reducible refine gate_dst (N := 1) rfl ?_); (try (refine gate_guard (by rfl) ?_; dsimp only)); refine box_event ?hg (N := 1) ?hd (cs := #[.int .i64 a0_0, .int .i64 a0_1, .bool a0_2, .bool a0_3, .int .i64 a0_4, .int .i64 a0_5, .int .i64 a0_6, .int .u32 a0_7, .int .u32 a0_8, .slice A0_9 l0_9.length c0_9, .slice A0_10 l0_10.length c0_10]) (t := 45) ?hr ?_; (case hd => rfl); (case hg => rfl); (case hr => first | (go_simp; done) | (go_simp; rfl)); intro gb225 hg w15 hbox hb; have n0_ := Aside0.mk (below_step (by repeat (first | (with_reducible first | exact HB.out | apply below_alloc | apply pw_below_drewN | apply below_drew1) | exact HB.out)) hb); have n1_ := Aside0.mk (hbox); have n2_ := Aside0.mk ((by rw [hg]; exact (below_size (by repeat (first | (with_reducible first | exact HB.out | apply below_alloc | apply pw_below_drewN | apply below_drew1) | exact HB.out))) : w.heap.size ≤ gb225)); have n3_ := Aside0.mk ((by rw [hg]; exact (below_size (by repeat (first | (with_reducible first | exact HB.out | apply below_alloc | apply pw_below_drewN | apply below_drew1) | exact HB.out))) : w.heap.size ≤ gb225)); clear HB; have HB := n0_; have BK225 := n1_; have GW225 := n2_; have GE225 := n3_; clear n0_ n1_ n2_ n3_; clear hb hbox hg; have hcz16_0 : w15.cell? ⟨gb225, 0, none⟩ = some (.int .i64 a0_0) := (blk_cell BK225.out 0).trans rfl; have hcz16_1 : w15.cell? ⟨gb225, 1, none⟩ = some (.int .i64 a0_1) := (blk_cell BK225.out 1).trans rfl; have hcz16_2 : w15.cell? ⟨gb225, 2, none⟩ = some (.bool a0_2) := (blk_cell BK225.out 2).trans rfl; have hcz16_3 : w15.cell? ⟨gb225, 3, none⟩ = some (.bool a0_3) := (blk_cell BK225.out 3).trans rfl; have hcz16_4 : w15.cell? ⟨gb225, 4, none⟩ = some (.int .i64 a0_4) := (blk_cell BK225.out 4).trans rfl; have hcz16_5 : w15.cell? ⟨gb225, 5, none⟩ = some (.int .i64 a0_5) := (blk_cell BK225.out 5).trans rfl; have hcz16_6 : w15.cell? ⟨gb225, 6, none⟩ = some (.int .i64 a0_6) := (blk_cell BK225.out 6).trans rfl; have hcz16_7 : w15.cell? ⟨gb225, 7, none⟩ = some (.int .u32 a0_7) := (blk_cell BK225.out 7).trans rfl; have hcz16_8 : w15.cell? ⟨gb225, 8, none⟩ = some (.int .u32 a0_8) := (blk_cell BK225.out 8).trans rfl; have hcz16_9 : w15.cell? ⟨gb225, 9, none⟩ = some (.slice A0_9 l0_9.length c0_9) := (blk_cell BK225.out 9).trans rfl; have hcz16_10 : w15.cell? ⟨gb225, 10, none⟩ = some (.slice A0_10 l0_10.length c0_10) := (blk_cell BK225.out 10).trans rfl; have hfz16_0 := blk_frozen BK225.out 0; have hfz16_1 := blk_frozen BK225.out 1; have hfz16_2 := blk_frozen BK225.out 2; have hfz16_3 := blk_frozen BK225.out 3; have hfz16_4 := blk_frozen BK225.out 4; have hfz16_5 := blk_frozen BK225.out 5; have hfz16_6 := blk_frozen BK225.out 6; have hfz16_7 := blk_frozen BK225.out 7; have hfz16_8 := blk_frozen BK225.out 8; have hfz16_9 := blk_frozen BK225.out 9; have hfz16_10 := blk_frozen BK225.out 10))
                        go_ret
                        exact ⟨by first | rfl | (simp [errW_none, errW_some] <;> rfl) | (simp [*, errW_none, errW_some] <;> rfl), by repeat (first | (with_reducible first | exact HB.out | apply below_alloc | apply pw_below_drewN | apply below_drew1 | refine below_set ?_ GE225.out) | exact HB.out)⟩
                    · rw [if_neg c11] at H
                      have c11b0 : decide (a0_4 ≤ 8191) = false := decide_eq_false c11
                      clear c11
                      obtain rfl := Option.some.inj H
                      go_enter Try.func31, Try.ntmps31
                      go_wp2_with (first | ((with_reducible refine gate_dst (N := 1) rfl ?_); (try (refine gate_guard (by rfl) ?_; dsimp only)); refine box_event ?hg (N := 1) ?hd (cs := #[.int .i64 a0_0, .int .i64 a0_1, .bool a0_2, .bool a0_3, .int .i64 a0_4, .int .i64 a0_5, .int .i64 a0_6, .int .u32 a0_7, .int .u32 a0_8, .slice A0_9 l0_9.length c0_9, .slice A0_10 l0_10.length c0_10]) (t := 45) ?hr ?_; (case hd => rfl); (case hg => rfl); (case hr => first | (go_simp; done) | (go_simp; rfl)); intro gb225 hg w17 hbox hb; have n0_ := Aside0.mk (below_step (by repeat (first | (with_reducible first | exact HB.out | apply below_alloc | apply pw_below_drewN | apply below_drew1) | exact HB.out)) hb); have n1_ := Aside0.mk (hbox); have n2_ := Aside0.mk ((by rw [hg]; exact (below_size (by repeat (first | (with_reducible first | exact HB.out | apply below_alloc | apply pw_below_drewN | apply below_drew1) | exact HB.out))) : w.heap.size ≤ gb225)); have n3_ := Aside0.mk ((by rw [hg]; exact (below_size (by repeat (first | (with_reducible first | exact HB.out | apply below_alloc | apply pw_below_drewN | apply below_drew1) | exact HB.out))) : w.heap.size ≤ gb225)); clear HB; have HB := n0_; have BK225 := n1_; have GW225 := n2_; have GE225 := n3_; clear n0_ n1_ n2_ n3_; clear hb hbox hg; have hcz18_0 : w17.cell? ⟨gb225, 0, none⟩ = some (.int .i64 a0_0) := (blk_cell BK225.out 0).trans rfl; have hcz18_1 : w17.cell? ⟨gb225, 1, none⟩ = some (.int .i64 a0_1) := (blk_cell BK225.out 1).trans rfl; have hcz18_2 : w17.cell? ⟨gb225, 2, none⟩ = some (.bool a0_2) := (blk_cell BK225.out 2).trans rfl; have hcz18_3 : w17.cell? ⟨gb225, 3, none⟩ = some (.bool a0_3) := (blk_cell BK225.out 3).trans rfl; have hcz18_4 : w17.cell? ⟨gb225, 4, none⟩ = some (.int .i64 a0_4) := (blk_cell BK225.out 4).trans rfl; have hcz18_5 : w17.cell? ⟨gb225, 5, none⟩ = some (.int .i64 a0_5) := (blk_cell BK225.out 5).trans rfl; have hcz18_6 : w17.cell? ⟨gb225, 6, none⟩ = some (.int .i64 a0_6) := (blk_cell BK225.out 6).trans rfl; have hcz18_7 : w17.cell? ⟨gb225, 7, none⟩ = some (.int .u32 a0_7) := (blk_cell BK225.out 7).trans rfl; have hcz18_8 : w17.cell? ⟨gb225, 8, none⟩ = some (.int .u32 a0_8) := (blk_cell BK225.out 8).trans rfl; have hcz18_9 : w17.cell? ⟨gb225, 9, none⟩ = some (.slice A0_9 l0_9.length c0_9) := (blk_cell BK225.out 9).trans rfl; have hcz18_10 : w17.cell? ⟨gb225, 10, none⟩ = some (.slice A0_10 l0_10.length c0_10) := (blk_cell BK225.out 10).trans rfl; have hfz18_0 := blk_frozen BK225.out 0; have hfz18_1 := blk_frozen BK225.out 1; have hfz18_2 := blk_frozen BK225.out 2; have hfz18_3 := blk_frozen BK225.out 3; have hfz18_4 := blk_frozen BK225.out 4; have hfz18_5 := blk_frozen BK225.out 5; have hfz18_6 := blk_frozen BK225.out 6; have hfz18_7 := blk_frozen BK225.out 7; have hfz18_8 := blk_frozen BK225.out 8; have hfz18_9 := blk_frozen BK225.out 9; have hfz18_10 := blk_frozen BK225.out 10))
                      go_ret
                      exact ⟨by first | rfl | (simp [errW_none, errW_some] <;> rfl) | (simp [*, errW_none, errW_some] <;> rfl), by repeat (first | (with_reducible first | exact HB.out | apply below_alloc | apply pw_below_drewN | apply below_drew1 | refine below_set ?_ GE225.out) | exact HB.out)⟩
                  · rw [if_neg c10] at H
                    have c10b0 : decide (0 ≤ a0_4) = false := decide_eq_false c10
                    clear c10
                    obtain rfl := Option.some.inj H
                    go_enter Try.func31, Try.ntmps31
                    go_wp2_with (first | ((with_reducible refine gate_dst (N := 1) rfl ?_); (try (refine gate_guard (by rfl) ?_; dsimp only)); refine box_event ?hg (N := 1) ?hd (cs := #[.int .i64 a0_0, .int .i64 a0_1, .bool a0_2, .bool a0_3, .int .i64 a0_4, .int .i64 a0_5, .int .i64 a0_6, .int .u32 a0_7, .int .u32 a0_8, .slice A0_9 l0_9.length c0_9, .slice A0_10 l0_10.length c0_10]) (t := 45) ?hr ?_; (case hd => rfl); (case hg => rfl); (case hr => first | (go_simp; done) | (go_simp; rfl)); intro gb225 hg w19 hbox hb; have n0_ := Aside0.mk (below_step (by repeat (first | (with_reducible first | exact HB.out | apply below_alloc | apply pw_below_drewN | apply below_drew1) | exact HB.out)) hb); have n1_ := Aside0.mk (hbox); have n2_ := Aside0.mk ((by rw [hg]; exact (below_size (by repeat (first | (with_reducible first | exact HB.out | apply below_alloc | apply pw_below_drewN | apply below_drew1) | exact HB.out))) : w.heap.size ≤ gb225)); have n3_ := Aside0.mk ((by rw [hg]; exact (below_size (by repeat (first | (with_reducible first | exact HB.out | apply below_alloc | apply pw_below_drewN | apply below_drew1) | exact HB.out))) : w.heap.size ≤ gb225)); clear HB; have HB := n0_; have BK225 := n1_; have GW225 := n2_; have GE225 := n3_; clear n0_ n1_ n2_ n3_; clear hb hbox hg; have hcz20_0 : w19.cell? ⟨gb225, 0, none⟩ = some (.int .i64 a0_0) := (blk_cell BK225.out 0).trans rfl; have hcz20_1 : w19.cell? ⟨gb225, 1, none⟩ = some (.int .i64 a0_1) := (blk_cell BK225.out 1).trans rfl; have hcz20_2 : w19.cell? ⟨gb225, 2, none⟩ = some (.bool a0_2) := (blk_cell BK225.out 2).trans rfl; have hcz20_3 : w19.cell? ⟨gb225, 3, none⟩ = some (.bool a0_3) := (blk_cell BK225.out 3).trans rfl; have hcz20_4 : w19.cell? ⟨gb225, 4, none⟩ = some (.int .i64 a0_4) := (blk_cell BK225.out 4).trans rfl; have hcz20_5 : w19.cell? ⟨gb225, 5, none⟩ = some (.int .i64 a0_5) := (blk_cell BK225.out 5).trans rfl; have hcz20_6 : w19.cell? ⟨gb225, 6, none⟩ = some (.int .i64 a0_6) := (blk_cell BK225.out 6).trans rfl; have hcz20_7 : w19.cell? ⟨gb225, 7, none⟩ = some (.int .u32 a0_7) := (blk_cell BK225.out 7).trans rfl; have hcz20_8 : w19.cell? ⟨gb225, 8, none⟩ = some (.int .u32 a0_8) := (blk_cell BK225.out 8).trans rfl; have hcz20_9 : w19.cell? ⟨gb225, 9, none⟩ = some (.slice A0_9 l0_9.length c0_9) := (blk_cell BK225.out 9).trans rfl; have hcz20_10 : w19.cell? ⟨gb225, 10, none⟩ = some (.slice A0_10 l0_10.length c0_10) := (blk_cell BK225.out 10).trans rfl; have hfz20_0 := blk_frozen BK225.out 0; have hfz20_1 := blk_frozen BK225.out 1; have hfz20_2 := blk_frozen BK225.out 2; have hfz20_3 := blk_frozen BK225.out 3; have hfz20_4 := blk_frozen BK225.out 4; have hfz20_5 := blk_frozen BK225.out 5; have hfz20_6 := blk_frozen BK225.out 6; have hfz20_7 := blk_frozen BK225.out 7; have hfz20_8 := blk_frozen BK225.out 8; have hfz20_9 := blk_frozen BK225.out 9; have hfz20_10 := blk_frozen BK225.out 10))
                    go_ret
                    exact ⟨by first | rfl | (simp [errW_none, errW_some] <;> rfl) | (simp [*, errW_none, errW_some] <;> rfl), by repeat (first | (with_reducible first | exact HB.out | apply below_alloc | apply pw_below_drewN | apply below_drew1 | refine below_set ?_ GE225.out) | exact HB.out)⟩
                · rw [if_neg c9] at H
                  have c9b0 : decide (a0_1 ≤ 65535) = false := decide_eq_false c9
                  clear c9
                  obtain rfl := Option.some.inj H
                  go_enter Try.func31, Try.ntmps31
                  go_wp2_with (first | ((with_reducible refine gate_dst (N := 1) rfl ?_); (try (refine gate_guard (by rfl) ?_; dsimp only)); refine box_event ?hg (N := 1) ?hd (cs := #[.int .i64 a0_0, .int .i64 a0_1, .bool a0_2, .bool a0_3, .int .i64 a0_4, .int .i64 a0_5, .int .i64 a0_6, .int .u32 a0_7, .int .u32 a0_8, .slice A0_9 l0_9.length c0_9, .slice A0_10 l0_10.length c0_10]) (t := 45) ?hr ?_; (case hd => rfl); (case hg => rfl); (case hr => first | (go_simp; done) | (go_simp; rfl)); intro gb225 hg w21 hbox hb; have n0_ := Aside0.mk (below_step (by repeat (first | (with_reducible first | exact HB.out | apply below_alloc | apply pw_below_drewN | apply below_drew1) | exact HB.out)) hb); have n1_ := Aside0.mk (hbox); have n2_ := Aside0.mk ((by rw [hg]; exact (below_size (by repeat (first | (with_reducible first | exact HB.out | apply below_alloc | apply pw_below_drewN | apply below_drew1) | exact HB.out))) : w.heap.size ≤ gb225)); have n3_ := Aside0.mk ((by rw [hg]; exact (below_size (by repeat (first | (with_reducible first | exact HB.out | apply below_alloc | apply pw_below_drewN | apply below_drew1) | exact HB.out))) : w.heap.size ≤ gb225)); clear HB; have HB := n0_; have BK225 := n1_; have GW225 := n2_; have GE225 := n3_; clear n0_ n1_ n2_ n3_; clear hb hbox hg; have hcz22_0 : w21.cell? ⟨gb225, 0, none⟩ = some (.int .i64 a0_0) := (blk_cell BK225.out 0).trans rfl; have hcz22_1 : w21.cell? ⟨gb225, 1, none⟩ = some (.int .i64 a0_1) := (blk_cell BK225.out 1).trans rfl; have hcz22_2 : w21.cell? ⟨gb225, 2, none⟩ = some (.bool a0_2) := (blk_cell BK225.out 2).trans rfl; have hcz22_3 : w21.cell? ⟨gb225, 3, none⟩ = some (.bool a0_3) := (blk_cell BK225.out 3).trans rfl; have hcz22_4 : w21.cell? ⟨gb225, 4, none⟩ = some (.int .i64 a0_4) := (blk_cell BK225.out 4).trans rfl; have hcz22_5 : w21.cell? ⟨gb225, 5, none⟩ = some (.int .i64 a0_5) := (blk_cell BK225.out 5).trans rfl; have hcz22_6 : w21.cell? ⟨gb225, 6, none⟩ = some (.int .i64 a0_6) := (blk_cell BK225.out 6).trans rfl; have hcz22_7 : w21.cell? ⟨gb225, 7, none⟩ = some (.int .u32 a0_7) := (blk_cell BK225.out 7).trans rfl; have hcz22_8 : w21.cell? ⟨gb225, 8, none⟩ = some (.int .u32 a0_8) := (blk_cell BK225.out 8).trans rfl; have hcz22_9 : w21.cell? ⟨gb225, 9, none⟩ = some (.slice A0_9 l0_9.length c0_9) := (blk_cell BK225.out 9).trans rfl; have hcz22_10 : w21.cell? ⟨gb225, 10, none⟩ = some (.slice A0_10 l0_10.length c0_10) := (blk_cell BK225.out 10).trans rfl; have hfz22_0 := blk_frozen BK225.out 0; have hfz22_1 := blk_frozen BK225.out 1; have hfz22_2 := blk_frozen BK225.out 2; have hfz22_3 := blk_frozen BK225.out 3; have hfz22_4 := blk_frozen BK225.out 4; have hfz22_5 := blk_frozen BK225.out 5; have hfz22_6 := blk_frozen BK225.out 6; have hfz22_7 := blk_frozen BK225.out 7; have hfz22_8 := blk_frozen BK225.out 8; have hfz22_9 := blk_frozen BK225.out 9; have hfz22_10 := blk_frozen BK225.out 10))
                  go_ret
                  exact ⟨by first | rfl | (simp [errW_none, errW_some] <;> rfl) | (simp [*, errW_none, errW_some] <;> rfl), by repeat (first | (with_reducible first | exact HB.out | apply below_alloc | apply pw_below_drewN | apply below_drew1 | refine below_set ?_ GE225.out) | exact HB.out)⟩
              · rw [if_neg c8] at H
                have c8b0 : decide (0 ≤ a0_1) = false := decide_eq_false c8
                clear c8
                obtain rfl := Option.some.inj H
                go_enter Try.func31, Try.ntmps31
                go_wp2_with (first | ((with_reducible refine gate_dst (N := 1) rfl ?_); (try (refine gate_guard (by rfl) ?_; dsimp only)); refine box_event ?hg (N := 1) ?hd (cs := #[.int .i64 a0_0, .int .i64 a0_1, .bool a0_2, .bool a0_3, .int .i64 a0_4, .int .i64 a0_5, .int .i64 a0_6, .int .u32 a0_7, .int .u32 a0_8, .slice A0_9 l0_9.length c0_9, .slice A0_10 l0_10.length c0_10]) (t := 45) ?hr ?_; (case hd => rfl); (case hg => rfl); (case hr => first | (go_simp; done) | (go_simp; rfl)); intro gb225 hg w23 hbox hb; have n0_ := Aside0.mk (below_step (by repeat (first | (with_reducible first | exact HB.out | apply below_alloc | apply pw_below_drewN | apply below_drew1) | exact HB.out)) hb); have n1_ := Aside0.mk (hbox); have n2_ := Aside0.mk ((by rw [hg]; exact (below_size (by repeat (first | (with_reducible first | exact HB.out | apply below_alloc | apply pw_below_drewN | apply below_drew1) | exact HB.out))) : w.heap.size ≤ gb225)); have n3_ := Aside0.mk ((by rw [hg]; exact (below_size (by repeat (first | (with_reducible first | exact HB.out | apply below_alloc | apply pw_below_drewN | apply below_drew1) | exact HB.out))) : w.heap.size ≤ gb225)); clear HB; have HB := n0_; have BK225 := n1_; have GW225 := n2_; have GE225 := n3_; clear n0_ n1_ n2_ n3_; clear hb hbox hg; have hcz24_0 : w23.cell? ⟨gb225, 0, none⟩ = some (.int .i64 a0_0) := (blk_cell BK225.out 0).trans rfl; have hcz24_1 : w23.cell? ⟨gb225, 1, none⟩ = some (.int .i64 a0_1) := (blk_cell BK225.out 1).trans rfl; have hcz24_2 : w23.cell? ⟨gb225, 2, none⟩ = some (.bool a0_2) := (blk_cell BK225.out 2).trans rfl; have hcz24_3 : w23.cell? ⟨gb225, 3, none⟩ = some (.bool a0_3) := (blk_cell BK225.out 3).trans rfl; have hcz24_4 : w23.cell? ⟨gb225, 4, none⟩ = some (.int .i64 a0_4) := (blk_cell BK225.out 4).trans rfl; have hcz24_5 : w23.cell? ⟨gb225, 5, none⟩ = some (.int .i64 a0_5) := (blk_cell BK225.out 5).trans rfl; have hcz24_6 : w23.cell? ⟨gb225, 6, none⟩ = some (.int .i64 a0_6) := (blk_cell BK225.out 6).trans rfl; have hcz24_7 : w23.cell? ⟨gb225, 7, none⟩ = some (.int .u32 a0_7) := (blk_cell BK225.out 7).trans rfl; have hcz24_8 : w23.cell? ⟨gb225, 8, none⟩ = some (.int .u32 a0_8) := (blk_cell BK225.out 8).trans rfl; have hcz24_9 : w23.cell? ⟨gb225, 9, none⟩ = some (.slice A0_9 l0_9.length c0_9) := (blk_cell BK225.out 9).trans rfl; have hcz24_10 : w23.cell? ⟨gb225, 10, none⟩ = some (.slice A0_10 l0_10.length c0_10) := (blk_cell BK225.out 10).trans rfl; have hfz24_0 := blk_frozen BK225.out 0; have hfz24_1 := blk_frozen BK225.out 1; have hfz24_2 := blk_frozen BK225.out 2; have hfz24_3 := blk_frozen BK225.out 3; have hfz24_4 := blk_frozen BK225.out 4; have hfz24_5 := blk_frozen BK225.out 5; have hfz24_6 := blk_frozen BK225.out 6; have hfz24_7 := blk_frozen BK225.out 7; have hfz24_8 := blk_frozen BK225.out 8; have hfz24_9 := blk_frozen BK225.out 9; have hfz24_10 := blk_frozen BK225.out 10))
                go_ret
                exact ⟨by first | rfl | (simp [errW_none, errW_some] <;> rfl) | (simp [*, errW_none, errW_some] <;> rfl), by repeat (first | (with_reducible first | exact HB.out | apply below_alloc | apply pw_below_drewN | apply below_drew1 | refine below_set ?_ GE225.out) | exact HB.out)⟩
            · rw [if_neg c7] at H
              have c7b0 : decide (a0_6 ≤ 255) = false := decide_eq_false c7
              clear c7
              obtain rfl := Option.some.inj H
              go_enter Try.func31, Try.ntmps31
              go_wp2_with (first | ((with_reducible refine gate_dst (N := 1) rfl ?_); (try (refine gate_guard (by rfl) ?_; dsimp only)); refine box_event ?hg (N := 1) ?hd (cs := #[.int .i64 a0_0, .int .i64 a0_1, .bool a0_2, .bool a0_3, .int .i64 a0_4, .int .i64 a0_5, .int .i64 a0_6, .int .u32 a0_7, .int .u32 a0_8, .slice A0_9 l0_9.length c0_9, .slice A0_10 l0_10.length c0_10]) (t := 45) ?hr ?_; (case hd => rfl); (case hg => rfl); (case hr => first | (go_simp; done) | (go_simp; rfl)); intro gb225 hg w25 hbox hb; have n0_ := Aside0.mk (below_step (by repeat (first | (with_reducible first | exact HB.out | apply below_alloc | apply pw_below_drewN | apply below_drew1) | exact HB.out)) hb); have n1_ := Aside0.mk (hbox); have n2_ := Aside0.mk ((by rw [hg]; exact (below_size (by repeat (first | (with_reducible first | exact HB.out | apply below_alloc | apply pw_below_drewN | apply below_drew1) | exact HB.out))) : w.heap.size ≤ gb225)); have n3_ := Aside0.mk ((by rw [hg]; exact (below_size (by repeat (first | (with_reducible first | exact HB.out | apply below_alloc | apply pw_below_drewN | apply below_drew1) | exact HB.out))) : w.heap.size ≤ gb225)); clear HB; have HB := n0_; have BK225 := n1_; have GW225 := n2_; have GE225 := n3_; clear n0_ n1_ n2_ n3_; clear hb hbox hg; have hcz26_0 : w25.cell? ⟨gb225, 0, none⟩ = some (.int .i64 a0_0) := (blk_cell BK225.out 0).trans rfl; have hcz26_1 : w25.cell? ⟨gb225, 1, none⟩ = some (.int .i64 a0_1) := (blk_cell BK225.out 1).trans rfl; have hcz26_2 : w25.cell? ⟨gb225, 2, none⟩ = some (.bool a0_2) := (blk_cell BK225.out 2).trans rfl; have hcz26_3 : w25.cell? ⟨gb225, 3, none⟩ = some (.bool a0_3) := (blk_cell BK225.out 3).trans rfl; have hcz26_4 : w25.cell? ⟨gb225, 4, none⟩ = some (.int .i64 a0_4) := (blk_cell BK225.out 4).trans rfl; have hcz26_5 : w25.cell? ⟨gb225, 5, none⟩ = some (.int .i64 a0_5) := (blk_cell BK225.out 5).trans rfl; have hcz26_6 : w25.cell? ⟨gb225, 6, none⟩ = some (.int .i64 a0_6) := (blk_cell BK225.out 6).trans rfl; have hcz26_7 : w25.cell? ⟨gb225, 7, none⟩ = some (.int .u32 a0_7) := (blk_cell BK225.out 7).trans rfl; have hcz26_8 : w25.cell? ⟨gb225, 8, none⟩ = some (.int .u32 a0_8) := (blk_cell BK225.out 8).trans rfl; have hcz26_9 : w25.cell? ⟨gb225, 9, none⟩ = some (.slice A0_9 l0_9.length c0_9) := (blk_cell BK225.out 9).trans rfl; have hcz26_10 : w25.cell? ⟨gb225, 10, none⟩ = some (.slice A0_10 l0_10.length c0_10) := (blk_cell BK225.out 10).trans rfl; have hfz26_0 := blk_frozen BK225.out 0; have hfz26_1 := blk_frozen BK225.out 1; have hfz26_2 := blk_frozen BK225.out 2; have hfz26_3 := blk_frozen BK225.out 3; have hfz26_4 := blk_frozen BK225.out 4; have hfz26_5 := blk_frozen BK225.out 5; have hfz26_6 := blk_frozen BK225.out 6; have hfz26_7 := blk_frozen BK225.out 7; have hfz26_8 := blk_frozen BK225.out 8; have hfz26_9 := blk_frozen BK225.out 9; have hfz26_10 := blk_frozen BK225.out 10))
              go_ret
              exact ⟨by first | rfl | (simp [errW_none, errW_some] <;> rfl) | (simp [*, errW_none, errW_some] <;> rfl), by repeat (first | (with_reducible first | exact HB.out | apply below_alloc | apply pw_below_drewN | apply below_drew1 | refine below_set ?_ GE225.out) | exact HB.out)⟩
          · rw [if_neg c6] at H
            have c6b0 : decide (0 ≤ a0_6) = false := decide_eq_false c6
            clear c6
            obtain rfl := Option.some.inj H
            go_enter Try.func31, Try.ntmps31
            go_wp2_with (first | ((with_reducible refine gate_dst (N := 1) rfl ?_); (try (refine gate_guard (by rfl) ?_; dsimp only)); refine box_event ?hg (N := 1) ?hd (cs := #[.int .i64 a0_0, .int .i64 a0_1, .bool a0_2, .bool a0_3, .int .i64 a0_4, .int .i64 a0_5, .int .i64 a0_6, .int .u32 a0_7, .int .u32 a0_8, .slice A0_9 l0_9.length c0_9, .slice A0_10 l0_10.length c0_10]) (t := 45) ?hr ?_; (case hd => rfl); (case hg => rfl); (case hr => first | (go_simp; done) | (go_simp; rfl)); intro gb225 hg w27 hbox hb; have n0_ := Aside0.mk (below_step (by repeat (first | (with_reducible first | exact HB.out | apply below_alloc | apply pw_below_drewN | apply below_drew1) | exact HB.out)) hb); have n1_ := Aside0.mk (hbox); have n2_ := Aside0.mk ((by rw [hg]; exact (below_size (by repeat (first | (with_reducible first | exact HB.out | apply below_alloc | apply pw_below_drewN | apply below_drew1) | exact HB.out))) : w.heap.size ≤ gb225)); have n3_ := Aside0.mk ((by rw [hg]; exact (below_size (by repeat (first | (with_reducible first | exact HB.out | apply below_alloc | apply pw_below_drewN | apply below_drew1) | exact HB.out))) : w.heap.size ≤ gb225)); clear HB; have HB := n0_; have BK225 := n1_; have GW225 := n2_; have GE225 := n3_; clear n0_ n1_ n2_ n3_; clear hb hbox hg; have hcz28_0 : w27.cell? ⟨gb225, 0, none⟩ = some (.int .i64 a0_0) := (blk_cell BK225.out 0).trans rfl; have hcz28_1 : w27.cell? ⟨gb225, 1, none⟩ = some (.int .i64 a0_1) := (blk_cell BK225.out 1).trans rfl; have hcz28_2 : w27.cell? ⟨gb225, 2, none⟩ = some (.bool a0_2) := (blk_cell BK225.out 2).trans rfl; have hcz28_3 : w27.cell? ⟨gb225, 3, none⟩ = some (.bool a0_3) := (blk_cell BK225.out 3).trans rfl; have hcz28_4 : w27.cell? ⟨gb225, 4, none⟩ = some (.int .i64 a0_4) := (blk_cell BK225.out 4).trans rfl; have hcz28_5 : w27.cell? ⟨gb225, 5, none⟩ = some (.int .i64 a0_5) := (blk_cell BK225.out 5).trans rfl; have hcz28_6 : w27.cell? ⟨gb225, 6, none⟩ = some (.int .i64 a0_6) := (blk_cell BK225.out 6).trans rfl; have hcz28_7 : w27.cell? ⟨gb225, 7, none⟩ = some (.int .u32 a0_7) := (blk_cell BK225.out 7).trans rfl; have hcz28_8 : w27.cell? ⟨gb225, 8, none⟩ = some (.int .u32 a0_8) := (blk_cell BK225.out 8).trans rfl; have hcz28_9 : w27.cell? ⟨gb225, 9, none⟩ = some (.slice A0_9 l0_9.length c0_9) := (blk_cell BK225.out 9).trans rfl; have hcz28_10 : w27.cell? ⟨gb225, 10, none⟩ = some (.slice A0_10 l0_10.length c0_10) := (blk_cell BK225.out 10).trans rfl; have hfz28_0 := blk_frozen BK225.out 0; have hfz28_1 := blk_frozen BK225.out 1; have hfz28_2 := blk_frozen BK225.out 2; have hfz28_3 := blk_frozen BK225.out 3; have hfz28_4 := blk_frozen BK225.out 4; have hfz28_5 := blk_frozen BK225.out 5; have hfz28_6 := blk_frozen BK225.out 6; have hfz28_7 := blk_frozen BK225.out 7; have hfz28_8 := blk_frozen BK225.out 8; have hfz28_9 := blk_frozen BK225.out 9; have hfz28_10 := blk_frozen BK225.out 10))
            go_ret
            exact ⟨by first | rfl | (simp [errW_none, errW_some] <;> rfl) | (simp [*, errW_none, errW_some] <;> rfl), by repeat (first | (with_reducible first | exact HB.out | apply below_alloc | apply pw_below_drewN | apply below_drew1 | refine below_set ?_ GE225.out) | exact HB.out)⟩
        · rw [if_neg c5] at H
          have c5b0 : decide (a0_5 ≤ 255) = false := decide_eq_false c5
          clear c5
          obtain rfl := Option.some.inj H
          go_enter Try.func31, Try.ntmps31
          go_wp2_with (first | ((with_reducible refine gate_dst (N := 1) rfl ?_); (try (refine gate_guard (by rfl) ?_; dsimp only)); refine box_event ?hg (N := 1) ?hd (cs := #[.int .i64 a0_0, .int .i64 a0_1, .bool a0_2, .bool a0_3, .int .i64 a0_4, .int .i64 a0_5, .int .i64 a0_6, .int .u32 a0_7, .int .u32 a0_8, .slice A0_9 l0_9.length c0_9, .slice A0_10 l0_10.length c0_10]) (t := 45) ?hr ?_; (case hd => rfl); (case hg => rfl); (case hr => first | (go_simp; done) | (go_simp; rfl)); intro gb225 hg w29 hbox hb; have n0_ := Aside0.mk (below_step (by repeat (first | (with_reducible first | exact HB.out | apply below_alloc | apply pw_below_drewN | apply below_drew1) | exact HB.out)) hb); have n1_ := Aside0.mk (hbox); have n2_ := Aside0.mk ((by rw [hg]; exact (below_size (by repeat (first | (with_reducible first | exact HB.out | apply below_alloc | apply pw_below_drewN | apply below_drew1) | exact HB.out))) : w.heap.size ≤ gb225)); have n3_ := Aside0.mk ((by rw [hg]; exact (below_size (by repeat (first | (with_reducible first | exact HB.out | apply below_alloc | apply pw_below_drewN | apply below_drew1) | exact HB.out))) : w.heap.size ≤ gb225)); clear HB; have HB := n0_; have BK225 := n1_; have GW225 := n2_; have GE225 := n3_; clear n0_ n1_ n2_ n3_; clear hb hbox hg; have hcz30_0 : w29.cell? ⟨gb225, 0, none⟩ = some (.int .i64 a0_0) := (blk_cell BK225.out 0).trans rfl; have hcz30_1 : w29.cell? ⟨gb225, 1, none⟩ = some (.int .i64 a0_1) := (blk_cell BK225.out 1).trans rfl; have hcz30_2 : w29.cell? ⟨gb225, 2, none⟩ = some (.bool a0_2) := (blk_cell BK225.out 2).trans rfl; have hcz30_3 : w29.cell? ⟨gb225, 3, none⟩ = some (.bool a0_3) := (blk_cell BK225.out 3).trans rfl; have hcz30_4 : w29.cell? ⟨gb225, 4, none⟩ = some (.int .i64 a0_4) := (blk_cell BK225.out 4).trans rfl; have hcz30_5 : w29.cell? ⟨gb225, 5, none⟩ = some (.int .i64 a0_5) := (blk_cell BK225.out 5).trans rfl; have hcz30_6 : w29.cell? ⟨gb225, 6, none⟩ = some (.int .i64 a0_6) := (blk_cell BK225.out 6).trans rfl; have hcz30_7 : w29.cell? ⟨gb225, 7, none⟩ = some (.int .u32 a0_7) := (blk_cell BK225.out 7).trans rfl; have hcz30_8 : w29.cell? ⟨gb225, 8, none⟩ = some (.int .u32 a0_8) := (blk_cell BK225.out 8).trans rfl; have hcz30_9 : w29.cell? ⟨gb225, 9, none⟩ = some (.slice A0_9 l0_9.length c0_9) := (blk_cell BK225.out 9).trans rfl; have hcz30_10 : w29.cell? ⟨gb225, 10, none⟩ = some (.slice A0_10 l0_10.length c0_10) := (blk_cell BK225.out 10).trans rfl; have hfz30_0 := blk_frozen BK225.out 0; have hfz30_1 := blk_frozen BK225.out 1; have hfz30_2 := blk_frozen BK225.out 2; have hfz30_3 := blk_frozen BK225.out 3; have hfz30_4 := blk_frozen BK225.out 4; have hfz30_5 := blk_frozen BK225.out 5; have hfz30_6 := blk_frozen BK225.out 6; have hfz30_7 := blk_frozen BK225.out 7; have hfz30_8 := blk_frozen BK225.out 8; have hfz30_9 := blk_frozen BK225.out 9; have hfz30_10 := blk_frozen BK225.out 10))
          go_ret
          exact ⟨by first | rfl | (simp [errW_none, errW_some] <;> rfl) | (simp [*, errW_none, errW_some] <;> rfl), by repeat (first | (with_reducible first | exact HB.out | apply below_alloc | apply pw_below_drewN | apply below_drew1 | refine below_set ?_ GE225.out) | exact HB.out)⟩
      · rw [if_neg c4] at H
        have c4b0 : decide (0 ≤ a0_5) = false := decide_eq_false c4
        clear c4
        obtain rfl := Option.some.inj H
        go_enter Try.func31, Try.ntmps31
        go_wp2_with (first | ((with_reducible refine gate_dst (N := 1) rfl ?_); (try (refine gate_guard (by rfl) ?_; dsimp only)); refine box_event ?hg (N := 1) ?hd (cs := #[.int .i64 a0_0, .int .i64 a0_1, .bool a0_2, .bool a0_3, .int .i64 a0_4, .int .i64 a0_5, .int .i64 a0_6, .int .u32 a0_7, .int .u32 a0_8, .slice A0_9 l0_9.length c0_9, .slice A0_10 l0_10.length c0_10]) (t := 45) ?hr ?_; (case hd => rfl); (case hg => rfl); (case hr => first | (go_simp; done) | (go_simp; rfl)); intro gb225 hg w31 hbox hb; have n0_ := Aside0.mk (below_step (by repeat (first | (with_reducible first | exact HB.out | apply below_alloc | apply pw_below_drewN | apply below_drew1) | exact HB.out)) hb); have n1_ := Aside0.mk (hbox); have n2_ := Aside0.mk ((by rw [hg]; exact (below_size (by repeat (first | (with_reducible first | exact HB.out | apply below_alloc | apply pw_below_drewN | apply below_drew1) | exact HB.out))) : w.heap.size ≤ gb225)); have n3_ := Aside0.mk ((by rw [hg]; exact (below_size (by repeat (first | (with_reducible first | exact HB.out | apply below_alloc | apply pw_below_drewN | apply below_drew1) | exact HB.out))) : w.heap.size ≤ gb225)); clear HB; have HB := n0_; have BK225 := n1_; have GW225 := n2_; have GE225 := n3_; clear n0_ n1_ n2_ n3_; clear hb hbox hg; have hcz32_0 : w31.cell? ⟨gb225, 0, none⟩ = some (.int .i64 a0_0) := (blk_cell BK225.out 0).trans rfl; have hcz32_1 : w31.cell? ⟨gb225, 1, none⟩ = some (.int .i64 a0_1) := (blk_cell BK225.out 1).trans rfl; have hcz32_2 : w31.cell? ⟨gb225, 2, none⟩ = some (.bool a0_2) := (blk_cell BK225.out 2).trans rfl; have hcz32_3 : w31.cell? ⟨gb225, 3, none⟩ = some (.bool a0_3) := (blk_cell BK225.out 3).trans rfl; have hcz32_4 : w31.cell? ⟨gb225, 4, none⟩ = some (.int .i64 a0_4) := (blk_cell BK225.out 4).trans rfl; have hcz32_5 : w31.cell? ⟨gb225, 5, none⟩ = some (.int .i64 a0_5) := (blk_cell BK225.out 5).trans rfl; have hcz32_6 : w31.cell? ⟨gb225, 6, none⟩ = some (.int .i64 a0_6) := (blk_cell BK225.out 6).trans rfl; have hcz32_7 : w31.cell? ⟨gb225, 7, none⟩ = some (.int .u32 a0_7) := (blk_cell BK225.out 7).trans rfl; have hcz32_8 : w31.cell? ⟨gb225, 8, none⟩ = some (.int .u32 a0_8) := (blk_cell BK225.out 8).trans rfl; have hcz32_9 : w31.cell? ⟨gb225, 9, none⟩ = some (.slice A0_9 l0_9.length c0_9) := (blk_cell BK225.out 9).trans rfl; have hcz32_10 : w31.cell? ⟨gb225, 10, none⟩ = some (.slice A0_10 l0_10.length c0_10) := (blk_cell BK225.out 10).trans rfl; have hfz32_0 := blk_frozen BK225.out 0; have hfz32_1 := blk_frozen BK225.out 1; have hfz32_2 := blk_frozen BK225.out 2; have hfz32_3 := blk_frozen BK225.out 3; have hfz32_4 := blk_frozen BK225.out 4; have hfz32_5 := blk_frozen BK225.out 5; have hfz32_6 := blk_frozen BK225.out 6; have hfz32_7 := blk_frozen BK225.out 7; have hfz32_8 := blk_frozen BK225.out 8; have hfz32_9 := blk_frozen BK225.out 9; have hfz32_10 := blk_frozen BK225.out 10))
        go_ret
        exact ⟨by first | rfl | (simp [errW_none, errW_some] <;> rfl) | (simp [*, errW_none, errW_some] <;> rfl), by repeat (first | (with_reducible first | exact HB.out | apply below_alloc | apply pw_below_drewN | apply below_drew1 | refine below_set ?_ GE225.out) | exact HB.out)⟩
    · rw [if_neg c3] at H
      have c3b0 : decide (a0_0 ≤ 255) = false := decide_eq_false c3
      clear c3
      obtain rfl := Option.some.inj H
      go_enter Try.func31, Try.ntmps31
      go_wp2_with (first | ((with_reducible refine gate_dst (N := 1) rfl ?_); (try (refine gate_guard (by rfl) ?_; dsimp only)); refine box_event ?hg (N := 1) ?hd (cs := #[.int .i64 a0_0, .int .i64 a0_1, .bool a0_2, .bool a0_3, .int .i64 a0_4, .int .i64 a0_5, .int .i64 a0_6, .int .u32 a0_7, .int .u32 a0_8, .slice A0_9 l0_9.length c0_9, .slice A0_10 l0_10.length c0_10]) (t := 45) ?hr ?_; (case hd => rfl); (case hg => rfl); (case hr => first | (go_simp; done) | (go_simp; rfl)); intro gb225 hg w33 hbox hb; have n0_ := Aside0.mk (below_step (by repeat (first | (with_reducible first | exact HB.out | apply below_alloc | apply pw_below_drewN | apply below_drew1) | exact HB.out)) hb); have n1_ := Aside0.mk (hbox); have n2_ := Aside0.mk ((by rw [hg]; exact (below_size (by repeat (first | (with_reducible first | exact HB.out | apply below_alloc | apply pw_below_drewN | apply below_drew1) | exact HB.out))) : w.heap.size ≤ gb225)); have n3_ := Aside0.mk ((by rw [hg]; exact (below_size (by repeat (first | (with_reducible first | exact HB.out | apply below_alloc | apply pw_below_drewN | apply below_drew1) | exact HB.out))) : w.heap.size ≤ gb225)); clear HB; have HB := n0_; have BK225 := n1_; have GW225 := n2_; have GE225 := n3_; clear n0_ n1_ n2_ n3_; clear hb hbox hg; have hcz34_0 : w33.cell? ⟨gb225, 0, none⟩ = some (.int .i64 a0_0) := (blk_cell BK225.out 0).trans rfl; have hcz34_1 : w33.cell? ⟨gb225, 1, none⟩ = some (.int .i64 a0_1) := (blk_cell BK225.out 1).trans rfl; have hcz34_2 : w33.cell? ⟨gb225, 2, none⟩ = some (.bool a0_2) := (blk_cell BK225.out 2).trans rfl; have hcz34_3 : w33.cell? ⟨gb225, 3, none⟩ = some (.bool a0_3) := (blk_cell BK225.out 3).trans rfl; have hcz34_4 : w33.cell? ⟨gb225, 4, none⟩ = some (.int .i64 a0_4) := (blk_cell BK225.out 4).trans rfl; have hcz34_5 : w33.cell? ⟨gb225, 5, none⟩ = some (.int .i64 a0_5) := (blk_cell BK225.out 5).trans rfl; have hcz34_6 : w33.cell? ⟨gb225, 6, none⟩ = some (.int .i64 a0_6) := (blk_cell BK225.out 6).trans rfl; have hcz34_7 : w33.cell? ⟨gb225, 7, none⟩ = some (.int .u32 a0_7) := (blk_cell BK225.out 7).trans rfl; have hcz34_8 : w33.cell? ⟨gb225, 8, none⟩ = some (.int .u32 a0_8) := (blk_cell BK225.out 8).trans rfl; have hcz34_9 : w33.cell? ⟨gb225, 9, none⟩ = some (.slice A0_9 l0_9.length c0_9) := (blk_cell BK225.out 9).trans rfl; have hcz34_10 : w33.cell? ⟨gb225, 10, none⟩ = some (.slice A0_10 l0_10.length c0_10) := (blk_cell BK225.out 10).trans rfl; have hfz34_0 := blk_frozen BK225.out 0; have hfz34_1 := blk_frozen BK225.out 1; have hfz34_2 := blk_frozen BK225.out 2; have hfz34_3 := blk_frozen BK225.out 3; have hfz34_4 := blk_frozen BK225.out 4; have hfz34_5 := blk_frozen BK225.out 5; have hfz34_6 := blk_frozen BK225.out 6; have hfz34_7 := blk_frozen BK225.out 7; have hfz34_8 := blk_frozen BK225.out 8; have hfz34_9 := blk_frozen BK225.out 9; have hfz34_10 := blk_frozen BK225.out 10))
      go_ret
      exact ⟨by first | rfl | (simp [errW_none, errW_some] <;> rfl) | (simp [*, errW_none, errW_some] <;> rfl), by repeat (first | (with_reducible first | exact HB.out | apply below_alloc | apply pw_below_drewN | apply below_drew1 | refine below_set ?_ GE225.out) | exact HB.out)⟩
  · rw [if_neg c2] at H
    have c2b0 : decide (0 ≤ a0_0) = false := decide_eq_false c2
    clear c2
    obtain rfl := Option.some.inj H
    go_enter Try.func31, Try.ntmps31
    go_wp2_with (first | ((with_reducible refine gate_dst (N := 1) rfl ?_); (try (refine gate_guard (by rfl) ?_; dsimp only)); refine box_event ?hg (N := 1) ?hd (cs := #[.int .i64 a0_0, .int .i64 a0_1, .bool a0_2, .bool a0_3, .int .i64 a0_4, .int .i64 a0_5, .int .i64 a0_6, .int .u32 a0_7, .int .u32 a0_8, .slice A0_9 l0_9.length c0_9, .slice A0_10 l0_10.length c0_10]) (t := 45) ?hr ?_; (case hd => rfl); (case hg => rfl); (case hr => first | (go_simp; done) | (go_simp; rfl)); intro gb225 hg w35 hbox hb; have n0_ := Aside0.mk (below_step (by repeat (first | (with_reducible first | exact HB.out | apply below_alloc | apply pw_below_drewN | apply below_drew1) | exact HB.out)) hb); have n1_ := Aside0.mk (hbox); have n2_ := Aside0.mk ((by rw [hg]; exact (below_size (by repeat (first | (with_reducible first | exact HB.out | apply below_alloc | apply pw_below_drewN | apply below_drew1) | exact HB.out))) : w.heap.size ≤ gb225)); have n3_ := Aside0.mk ((by rw [hg]; exact (below_size (by repeat (first | (with_reducible first | exact HB.out | apply below_alloc | apply pw_below_drewN | apply below_drew1) | exact HB.out))) : w.heap.size ≤ gb225)); clear HB; have HB := n0_; have BK225 := n1_; have GW225 := n2_; have GE225 := n3_; clear n0_ n1_ n2_ n3_; clear hb hbox hg; have hcz36_0 : w35.cell? ⟨gb225, 0, none⟩ = some (.int .i64 a0_0) := (blk_cell BK225.out 0).trans rfl; have hcz36_1 : w35.cell? ⟨gb225, 1, none⟩ = some (.int .i64 a0_1) := (blk_cell BK225.out 1).trans rfl; have hcz36_2 : w35.cell? ⟨gb225, 2, none⟩ = some (.bool a0_2) := (blk_cell BK225.out 2).trans rfl; have hcz36_3 : w35.cell? ⟨gb225, 3, none⟩ = some (.bool a0_3) := (blk_cell BK225.out 3).trans rfl; have hcz36_4 : w35.cell? ⟨gb225, 4, none⟩ = some (.int .i64 a0_4) := (blk_cell BK225.out 4).trans rfl; have hcz36_5 : w35.cell? ⟨gb225, 5, none⟩ = some (.int .i64 a0_5) := (blk_cell BK225.out 5).trans rfl; have hcz36_6 : w35.cell? ⟨gb225, 6, none⟩ = some (.int .i64 a0_6) := (blk_cell BK225.out 6).trans rfl; have hcz36_7 : w35.cell? ⟨gb225, 7, none⟩ = some (.int .u32 a0_7) := (blk_cell BK225.out 7).trans rfl; have hcz36_8 : w35.cell? ⟨gb225, 8, none⟩ = some (.int .u32 a0_8) := (blk_cell BK225.out 8).trans rfl; have hcz36_9 : w35.cell? ⟨gb225, 9, none⟩ = some (.slice A0_9 l0_9.length c0_9) := (blk_cell BK225.out 9).trans rfl; have hcz36_10 : w35.cell? ⟨gb225, 10, none⟩ = some (.slice A0_10 l0_10.length c0_10) := (blk_cell BK225.out 10).trans rfl; have hfz36_0 := blk_frozen BK225.out 0; have hfz36_1 := blk_frozen BK225.out 1; have hfz36_2 := blk_frozen BK225.out 2; have hfz36_3 := blk_frozen BK225.out 3; have hfz36_4 := blk_frozen BK225.out 4; have hfz36_5 := blk_frozen BK225.out 5; have hfz36_6 := blk_frozen BK225.out 6; have hfz36_7 := blk_frozen BK225.out 7; have hfz36_8 := blk_frozen BK225.out 8; have hfz36_9 := blk_frozen BK225.out 9; have hfz36_10 := blk_frozen BK225.out 10))
    go_ret
    exact ⟨by first | rfl | (simp [errW_none, errW_some] <;> rfl) | (simp [*, errW_none, errW_some] <;> rfl), by repeat (first | (with_reducible first | exact HB.out | apply below_alloc | apply pw_below_drewN | apply below_drew1 | refine below_set ?_ GE225.out) | exact HB.out)⟩

/-! ### castellanlaw4_IpCut: function 10 -/
mutual
def castellanlaw4_IpCut.j0 : Nat → Int → Bool → Int → Int → Bool → Bool → Int → Int → Int → Int → Int → List Int → List Int → Option (Bool)
  | 0, _, _, _, _, _, _, _, _, _, _, _, _, _ => none
  | k + 1, x1, x15, x227000, x227001, x227002, x227003, x227004, x227005, x227006, x227007, x227008, x227009, x227010 => if x15 = true then (some true) else ((ip_Build.f k x227000 x227001 x227002 x227003 x227004 x227005 x227006 x227007 x227008 x227009 x227010).bind fun bt229 => (if bt229.2 = 0 then (castellanlaw4_IpCut.j1 k x1 bt229.1 (decide ((bt229.1.length : Int) < 20))) else (castellanlaw4_IpCut.j1 k x1 bt229.1 true)))
def castellanlaw4_IpCut.j1 : Nat → Int → List Int → Bool → Option (Bool)
  | 0, _, _, _ => none
  | k + 1, x1, x5, x27 => if x27 = true then (some false) else (if (x5.length : Int) = 0 then (none) else (if 0 ≤ (Int.tmod (Go.bits .and .i64 x1 65535) (x5.length : Int)) then (if (Int.tmod (Go.bits .and .i64 x1 65535) (x5.length : Int)) ≤ (x5.length : Int) then ((ip_Parse.f k (x5.take ((Int.tmod (Go.bits .and .i64 x1 65535) (x5.length : Int)) : Int).toNat)).bind fun bt237 => (if bt237.2.2.2.2.2.2.2.2.2.2.2 = 3 then ((castellanlaw4_known.f k).bind fun t254 => (some t254)) else (some false))) else (none)) else (none)))
end
def castellanlaw4_IpCut.f (k : Nat) (a0_0 : Int) (a0_1 : Int) (a0_2 : Bool) (a0_3 : Bool) (a0_4 : Int) (a0_5 : Int) (a0_6 : Int) (a0_7 : Int) (a0_8 : Int) (l0_9 : List Int) (l0_10 : List Int) (a1 : Int) : Option (Bool) := (castellanlaw4_long.f a0_0 a0_1 a0_2 a0_3 a0_4 a0_5 a0_6 a0_7 a0_8 l0_9 l0_10).bind fun t227 => (if t227 = true then (castellanlaw4_IpCut.j0 k a1 true a0_0 a0_1 a0_2 a0_3 a0_4 a0_5 a0_6 a0_7 a0_8 l0_9 l0_10) else ((castellanref4_Is.f a0_0 a0_1 a0_2 a0_3 a0_4 a0_5 a0_6 a0_7 a0_8 l0_9 l0_10).bind fun t228 => (castellanlaw4_IpCut.j0 k a1 (!t228) a0_0 a0_1 a0_2 a0_3 a0_4 a0_5 a0_6 a0_7 a0_8 l0_9 l0_10)))
theorem castellanlaw4_IpCut.mono_l : ∀ k, (∀ y0 y1 y2 y3 y4 y5 y6 y7 y8 y9 y10 y11 y12, LeO (castellanlaw4_IpCut.j0 k y0 y1 y2 y3 y4 y5 y6 y7 y8 y9 y10 y11 y12) (castellanlaw4_IpCut.j0 (k + 1) y0 y1 y2 y3 y4 y5 y6 y7 y8 y9 y10 y11 y12)) ∧ (∀ y0 y1 y2, LeO (castellanlaw4_IpCut.j1 k y0 y1 y2) (castellanlaw4_IpCut.j1 (k + 1) y0 y1 y2))
  | 0 => ⟨fun _ _ _ _ _ _ _ _ _ _ _ _ _ r h => by simp [castellanlaw4_IpCut.j0] at h, fun _ _ _ r h => by simp [castellanlaw4_IpCut.j1] at h⟩
  | k + 1 => by
    obtain ⟨ih0, ih1⟩ := castellanlaw4_IpCut.mono_l k
    refine ⟨?_, ?_⟩
    · intro y0 y1 y2 y3 y4 y5 y6 y7 y8 y9 y10 y11 y12
      unfold castellanlaw4_IpCut.j0
      repeat' first
      | (with_reducible exact ih0 _ _ _ _ _ _ _ _ _ _ _ _ _)
      | (with_reducible exact ih1 _ _ _)
      | (with_reducible exact castellanlaw4_known.mono _)
      | (with_reducible exact ip_Build.mono _ _ _ _ _ _ _ _ _ _ _ _)
      | (with_reducible exact ip_Parse.mono _ _)
      | (with_reducible exact LeO.refl _)
      | (with_reducible exact LeO.none _)
      | (with_reducible refine LeO.ite ?_ ?_)
      | (with_reducible refine LeO.bind ?_ (fun _ => ?_))
      | exact ih0 _ _ _ _ _ _ _ _ _ _ _ _ _
      | exact ih1 _ _ _
      | exact castellanlaw4_known.mono _
      | exact ip_Build.mono _ _ _ _ _ _ _ _ _ _ _ _
      | exact ip_Parse.mono _ _
      | exact LeO.none _
      | refine LeO.ite ?_ ?_
      | refine LeO.bind ?_ (fun _ => ?_)
    · intro y0 y1 y2
      unfold castellanlaw4_IpCut.j1
      repeat' first
      | (with_reducible exact ih0 _ _ _ _ _ _ _ _ _ _ _ _ _)
      | (with_reducible exact ih1 _ _ _)
      | (with_reducible exact castellanlaw4_known.mono _)
      | (with_reducible exact ip_Build.mono _ _ _ _ _ _ _ _ _ _ _ _)
      | (with_reducible exact ip_Parse.mono _ _)
      | (with_reducible exact LeO.refl _)
      | (with_reducible exact LeO.none _)
      | (with_reducible refine LeO.ite ?_ ?_)
      | (with_reducible refine LeO.bind ?_ (fun _ => ?_))
      | exact ih0 _ _ _ _ _ _ _ _ _ _ _ _ _
      | exact ih1 _ _ _
      | exact castellanlaw4_known.mono _
      | exact ip_Build.mono _ _ _ _ _ _ _ _ _ _ _ _
      | exact ip_Parse.mono _ _
      | exact LeO.none _
      | refine LeO.ite ?_ ?_
      | refine LeO.bind ?_ (fun _ => ?_)
theorem castellanlaw4_IpCut.mono : ∀ a0 a1 a2 a3 a4 a5 a6 a7 a8 a9 a10 a11 k, LeO (castellanlaw4_IpCut.f k a0 a1 a2 a3 a4 a5 a6 a7 a8 a9 a10 a11) (castellanlaw4_IpCut.f (k + 1) a0 a1 a2 a3 a4 a5 a6 a7 a8 a9 a10 a11) := by
  intro a0 a1 a2 a3 a4 a5 a6 a7 a8 a9 a10 a11 k
  obtain ⟨ih0, ih1⟩ := castellanlaw4_IpCut.mono_l k
  unfold castellanlaw4_IpCut.f
  repeat' first
      | (with_reducible exact ih0 _ _ _ _ _ _ _ _ _ _ _ _ _)
      | (with_reducible exact ih1 _ _ _)
      | (with_reducible exact castellanlaw4_known.mono _)
      | (with_reducible exact ip_Build.mono _ _ _ _ _ _ _ _ _ _ _ _)
      | (with_reducible exact ip_Parse.mono _ _)
      | (with_reducible exact LeO.refl _)
      | (with_reducible exact LeO.none _)
      | (with_reducible refine LeO.ite ?_ ?_)
      | (with_reducible refine LeO.bind ?_ (fun _ => ?_))
      | exact ih0 _ _ _ _ _ _ _ _ _ _ _ _ _
      | exact ih1 _ _ _
      | exact castellanlaw4_known.mono _
      | exact ip_Build.mono _ _ _ _ _ _ _ _ _ _ _ _
      | exact ip_Parse.mono _ _
      | exact LeO.none _
      | refine LeO.ite ?_ ?_
      | refine LeO.bind ?_ (fun _ => ?_)
set_option maxHeartbeats 8000000 in
set_option maxRecDepth 100000 in
theorem castellanlaw4_IpCut.calls (k : Nat) (a0_0 : Int) (a0_1 : Int) (a0_2 : Bool) (a0_3 : Bool) (a0_4 : Int) (a0_5 : Int) (a0_6 : Int) (a0_7 : Int) (a0_8 : Int) (A0_9 : Option Addr) (c0_9 : Nat) (l0_9 : List Int) (A0_10 : Option Addr) (c0_10 : Nat) (l0_10 : List Int) (a1 : Int) (r : Bool) (w : World) (hr0_9 : Kd.C (Kd.int .u8) w A0_9 l0_9.length l0_9) (hc0_9 : l0_9.length ≤ c0_9) (hr0_10 : Kd.C (Kd.int .u8) w A0_10 l0_10.length l0_10) (hc0_10 : l0_10.length ≤ c0_10) (hrt : r = true) (h : castellanlaw4_IpCut.f k a0_0 a0_1 a0_2 a0_3 a0_4 a0_5 a0_6 a0_7 a0_8 l0_9 l0_10 a1 = some r) :
    Calls Try.prog 10 #[.agg #[.int .i64 a0_0, .int .i64 a0_1, .bool a0_2, .bool a0_3, .int .i64 a0_4, .int .i64 a0_5, .int .i64 a0_6, .int .u32 a0_7, .int .u32 a0_8, .slice A0_9 l0_9.length c0_9, .slice A0_10 l0_10.length c0_10], .int .i64 a1] w fun e w' => e = .returned (.bool r) ∧ Below w.heap.size w w' := by
  have hu45 := Try.underlying45
  have HRT := Aside0.mk hrt
  clear hrt
  have HR0_9 := Aside0.mk hr0_9
  have HC0_9 := Aside0.mk hc0_9
  clear hr0_9 hc0_9
  have HR0_10 := Aside0.mk hr0_10
  have HC0_10 := Aside0.mk hc0_10
  clear hr0_10 hc0_10
  have HB := Aside0.mk (Below.refl w.heap.size w)
  have H : ((castellanlaw4_long.f a0_0 a0_1 a0_2 a0_3 a0_4 a0_5 a0_6 a0_7 a0_8 l0_9 l0_10).bind fun t227 => (if t227 = true then (castellanlaw4_IpCut.j0 k a1 true a0_0 a0_1 a0_2 a0_3 a0_4 a0_5 a0_6 a0_7 a0_8 l0_9 l0_10) else ((castellanref4_Is.f a0_0 a0_1 a0_2 a0_3 a0_4 a0_5 a0_6 a0_7 a0_8 l0_9 l0_10).bind fun t228 => (castellanlaw4_IpCut.j0 k a1 (!t228) a0_0 a0_1 a0_2 a0_3 a0_4 a0_5 a0_6 a0_7 a0_8 l0_9 l0_10)))) = some r := h
  clear h
  have HC3 := Aside0.mk H
  clear H
  go_enter Try.func10, Try.ntmps10
  go_upto_region 1 with (first | ((with_reducible refine gate_dst (N := 2) rfl ?_); (try (refine gate_guard (by rfl) ?_; dsimp only)); refine box_event ?hg (N := 2) ?hd (cs := #[.int .i64 a0_0, .int .i64 a0_1, .bool a0_2, .bool a0_3, .int .i64 a0_4, .int .i64 a0_5, .int .i64 a0_6, .int .u32 a0_7, .int .u32 a0_8, .slice A0_9 l0_9.length c0_9, .slice A0_10 l0_10.length c0_10]) (t := 45) ?hr ?_; (case hd => rfl); (case hg => rfl); (case hr => first | (go_simp; done) | (go_simp; rfl)); intro gb226 hg w4 hbox hb; have n0_ := Aside0.mk (below_step (by repeat (first | (with_reducible first | exact HB.out | apply below_alloc | apply pw_below_drewN | apply below_drew1) | exact HB.out)) hb); have n1_ := Aside0.mk (hbox); have n2_ := Aside0.mk ((by rw [hg]; exact (below_size (by repeat (first | (with_reducible first | exact HB.out | apply below_alloc | apply pw_below_drewN | apply below_drew1) | exact HB.out))) : w.heap.size ≤ gb226)); have n3_ := Aside0.mk ((by rw [hg]; exact (below_size (by repeat (first | (with_reducible first | exact HB.out | apply below_alloc | apply pw_below_drewN | apply below_drew1) | exact HB.out))) : w.heap.size ≤ gb226)); clear HB; have HB := n0_; have BK226 := n1_; have GW226 := n2_; have GE226 := n3_; clear n0_ n1_ n2_ n3_; clear hb hbox hg))
  (try simp only [Act.put, List.setIfInBounds_toArray, List.set_cons_zero, List.set_cons_succ])
  go_cut [15] (fun v15 wc => ∃ (kq : Nat) (x15_2 : Bool), v15 = .bool x15_2 ∧ Aside0 (castellanlaw4_IpCut.j0 kq a1 x15_2 a0_0 a0_1 a0_2 a0_3 a0_4 a0_5 a0_6 a0_7 a0_8 l0_9 l0_10 = some r) ∧ Aside0 (kq ≤ k) ∧ Aside0 (wc.heap[gb226]? = some (.cells #[.int .i64 a0_0, .int .i64 a0_1, .bool a0_2, .bool a0_3, .int .i64 a0_4, .int .i64 a0_5, .int .i64 a0_6, .int .u32 a0_7, .int .u32 a0_8, (.slice A0_9 l0_9.length c0_9), (.slice A0_10 l0_10.length c0_10)] 45 (0, 0))) ∧ Aside0 (Below w.heap.size w wc))
  case first =>
    have H := HC3.out
    clear HC3
    replace H := Option.bind_eq_some_iff.mp H
    obtain ⟨t227, A50, H⟩ := H
    replace H : (if t227 = true then (castellanlaw4_IpCut.j0 k a1 true a0_0 a0_1 a0_2 a0_3 a0_4 a0_5 a0_6 a0_7 a0_8 l0_9 l0_10) else ((castellanref4_Is.f a0_0 a0_1 a0_2 a0_3 a0_4 a0_5 a0_6 a0_7 a0_8 l0_9 l0_10).bind fun t228 => (castellanlaw4_IpCut.j0 k a1 (!t228) a0_0 a0_1 a0_2 a0_3 a0_4 a0_5 a0_6 a0_7 a0_8 l0_9 l0_10))) = some r := H
    have A5 := Aside0.mk A50
    clear A50
    by_cases c6 : t227 = true
    · subst c6
      have H1 : (castellanlaw4_IpCut.j0 k a1 true a0_0 a0_1 a0_2 a0_3 a0_4 a0_5 a0_6 a0_7 a0_8 l0_9 l0_10) = some r := by rw [if_pos rfl] at H; exact H
      clear H
      have H := H1
      clear H1
      have H' := Aside0.mk H
      clear H
      have hcz7_0 : w4.cell? ⟨gb226, 0, none⟩ = some (.int .i64 a0_0) := (blk_cell BK226.out 0).trans rfl
      have hcz7_1 : w4.cell? ⟨gb226, 1, none⟩ = some (.int .i64 a0_1) := (blk_cell BK226.out 1).trans rfl
      have hcz7_2 : w4.cell? ⟨gb226, 2, none⟩ = some (.bool a0_2) := (blk_cell BK226.out 2).trans rfl
      have hcz7_3 : w4.cell? ⟨gb226, 3, none⟩ = some (.bool a0_3) := (blk_cell BK226.out 3).trans rfl
      have hcz7_4 : w4.cell? ⟨gb226, 4, none⟩ = some (.int .i64 a0_4) := (blk_cell BK226.out 4).trans rfl
      have hcz7_5 : w4.cell? ⟨gb226, 5, none⟩ = some (.int .i64 a0_5) := (blk_cell BK226.out 5).trans rfl
      have hcz7_6 : w4.cell? ⟨gb226, 6, none⟩ = some (.int .i64 a0_6) := (blk_cell BK226.out 6).trans rfl
      have hcz7_7 : w4.cell? ⟨gb226, 7, none⟩ = some (.int .u32 a0_7) := (blk_cell BK226.out 7).trans rfl
      have hcz7_8 : w4.cell? ⟨gb226, 8, none⟩ = some (.int .u32 a0_8) := (blk_cell BK226.out 8).trans rfl
      have hcz7_9 : w4.cell? ⟨gb226, 9, none⟩ = some (.slice A0_9 l0_9.length c0_9) := (blk_cell BK226.out 9).trans rfl
      have hcz7_10 : w4.cell? ⟨gb226, 10, none⟩ = some (.slice A0_10 l0_10.length c0_10) := (blk_cell BK226.out 10).trans rfl
      have hfz7_0 := blk_frozen BK226.out 0
      have hfz7_1 := blk_frozen BK226.out 1
      have hfz7_2 := blk_frozen BK226.out 2
      have hfz7_3 := blk_frozen BK226.out 3
      have hfz7_4 := blk_frozen BK226.out 4
      have hfz7_5 := blk_frozen BK226.out 5
      have hfz7_6 := blk_frozen BK226.out 6
      have hfz7_7 := blk_frozen BK226.out 7
      have hfz7_8 := blk_frozen BK226.out 8
      have hfz7_9 := blk_frozen BK226.out 9
      have hfz7_10 := blk_frozen BK226.out 10
      go_wp2_with (first | ((with_reducible refine gate_callee (f := 30) rfl ?_); refine goesL_ (some 10) rfl rfl Try.func30 (by kernel_rfl) rfl #[.agg #[.int .i64 a0_0, .int .i64 a0_1, .bool a0_2, .bool a0_3, .int .i64 a0_4, .int .i64 a0_5, .int .i64 a0_6, .int .u32 a0_7, .int .u32 a0_8, .slice A0_9 l0_9.length c0_9, .slice A0_10 l0_10.length c0_10]] rfl (by (try simp only [List.map_toArray, List.map_cons, List.map_nil]); first | done | rfl | (simp only [List.length_drop, List.length_take]; rfl)) ?_; (with_reducible refine (castellanlaw4_long.calls a0_0 a0_1 a0_2 a0_3 a0_4 a0_5 a0_6 a0_7 a0_8 _ _ l0_9 _ _ l0_10 true _ ?side1 ?side2 ?side3 ?side4 A5.out).mono ?_); (case side1 => repeat (first | exact (Kd.C_below HR0_9.out HB.out) | (with_reducible refine Kd.C_alloc ?_ _) | (with_reducible refine Kd.C_drewN ?_ _) | (with_reducible refine Kd.C_drew ?_))); (case side2 => exact HC0_9.out); (case side3 => repeat (first | exact (Kd.C_below HR0_10.out HB.out) | (with_reducible refine Kd.C_alloc ?_ _) | (with_reducible refine Kd.C_drewN ?_ _) | (with_reducible refine Kd.C_drew ?_))); (case side4 => exact HC0_10.out); rintro e w8 ⟨rfl, hb⟩; refine ⟨_, rfl, ?_⟩; have n0_ := Aside0.mk (blk_below (g := gb226) (o := .cells #[.int .i64 a0_0, .int .i64 a0_1, .bool a0_2, .bool a0_3, .int .i64 a0_4, .int .i64 a0_5, .int .i64 a0_6, .int .u32 a0_7, .int .u32 a0_8, .slice A0_9 l0_9.length c0_9, .slice A0_10 l0_10.length c0_10] 45 (0, 0)) (by (with_reducible repeat (first | refine blk_drewN ?_ _ | refine blk_drew ?_ | refine blk_alloc ?_ _)); exact BK226.out) hb); have n1_ := Aside0.mk (below_step (by repeat (first | (with_reducible first | exact HB.out | apply below_alloc | apply pw_below_drewN | apply below_drew1 | refine below_set ?_ GE226.out) | exact HB.out)) hb); clear BK226; clear HB; have BK226 := n0_; have HB := n1_; clear n0_ n1_; (try clear hb); (try clear hb2); (try clear hk); (try clear hi)))
      go_meet
      case rel => exact ⟨_, (true), (by first | rfl | (simp; done) | (simp [*]; done)), H', ⟨by first | omega | exact Nat.le_refl _⟩, ⟨by (with_reducible repeat (first | refine blk_drewN ?_ _ | refine blk_drew ?_ | refine blk_alloc ?_ _)); exact BK226.out⟩, ⟨by repeat (first | (with_reducible first | exact HB.out | apply below_alloc | apply pw_below_drewN | apply below_drew1 | refine below_set ?_ GE226.out) | exact HB.out)⟩⟩
    · replace c6 := Bool.eq_false_iff.mpr c6
      subst c6
      have H1 : ((castellanref4_Is.f a0_0 a0_1 a0_2 a0_3 a0_4 a0_5 a0_6 a0_7 a0_8 l0_9 l0_10).bind fun t228 => (castellanlaw4_IpCut.j0 k a1 (!t228) a0_0 a0_1 a0_2 a0_3 a0_4 a0_5 a0_6 a0_7 a0_8 l0_9 l0_10)) = some r := by rw [if_neg (show ¬ (false = true) by decide)] at H; exact H
      clear H
      have H := H1
      clear H1
      replace H := Option.bind_eq_some_iff.mp H
      obtain ⟨t228, A90, H⟩ := H
      replace H : (castellanlaw4_IpCut.j0 k a1 (!t228) a0_0 a0_1 a0_2 a0_3 a0_4 a0_5 a0_6 a0_7 a0_8 l0_9 l0_10) = some r := H
      have A9 := Aside0.mk A90
      clear A90
      have H' := Aside0.mk H
      clear H
      have hcz10_0 : w4.cell? ⟨gb226, 0, none⟩ = some (.int .i64 a0_0) := (blk_cell BK226.out 0).trans rfl
      have hcz10_1 : w4.cell? ⟨gb226, 1, none⟩ = some (.int .i64 a0_1) := (blk_cell BK226.out 1).trans rfl
      have hcz10_2 : w4.cell? ⟨gb226, 2, none⟩ = some (.bool a0_2) := (blk_cell BK226.out 2).trans rfl
      have hcz10_3 : w4.cell? ⟨gb226, 3, none⟩ = some (.bool a0_3) := (blk_cell BK226.out 3).trans rfl
      have hcz10_4 : w4.cell? ⟨gb226, 4, none⟩ = some (.int .i64 a0_4) := (blk_cell BK226.out 4).trans rfl
      have hcz10_5 : w4.cell? ⟨gb226, 5, none⟩ = some (.int .i64 a0_5) := (blk_cell BK226.out 5).trans rfl
      have hcz10_6 : w4.cell? ⟨gb226, 6, none⟩ = some (.int .i64 a0_6) := (blk_cell BK226.out 6).trans rfl
      have hcz10_7 : w4.cell? ⟨gb226, 7, none⟩ = some (.int .u32 a0_7) := (blk_cell BK226.out 7).trans rfl
      have hcz10_8 : w4.cell? ⟨gb226, 8, none⟩ = some (.int .u32 a0_8) := (blk_cell BK226.out 8).trans rfl
      have hcz10_9 : w4.cell? ⟨gb226, 9, none⟩ = some (.slice A0_9 l0_9.length c0_9) := (blk_cell BK226.out 9).trans rfl
      have hcz10_10 : w4.cell? ⟨gb226, 10, none⟩ = some (.slice A0_10 l0_10.length c0_10) := (blk_cell BK226.out 10).trans rfl
      have hfz10_0 := blk_frozen BK226.out 0
      have hfz10_1 := blk_frozen BK226.out 1
      have hfz10_2 := blk_frozen BK226.out 2
      have hfz10_3 := blk_frozen BK226.out 3
      have hfz10_4 := blk_frozen BK226.out 4
      have hfz10_5 := blk_frozen BK226.out 5
      have hfz10_6 := blk_frozen BK226.out 6
      have hfz10_7 := blk_frozen BK226.out 7
      have hfz10_8 := blk_frozen BK226.out 8
      have hfz10_9 := blk_frozen BK226.out 9
      have hfz10_10 := blk_frozen BK226.out 10
      go_wp2_with (first | ((with_reducible refine gate_callee (f := 30) rfl ?_); refine goesL_ (some 10) rfl rfl Try.func30 (by kernel_rfl) rfl #[.agg #[.int .i64 a0_0, .int .i64 a0_1, .bool a0_2, .bool a0_3, .int .i64 a0_4, .int .i64 a0_5, .int .i64 a0_6, .int .u32 a0_7, .int .u32 a0_8, .slice A0_9 l0_9.length c0_9, .slice A0_10 l0_10.length c0_10]] rfl (by (try simp only [List.map_toArray, List.map_cons, List.map_nil]); first | done | rfl | (simp only [List.length_drop, List.length_take]; rfl)) ?_; (with_reducible refine (castellanlaw4_long.calls a0_0 a0_1 a0_2 a0_3 a0_4 a0_5 a0_6 a0_7 a0_8 _ _ l0_9 _ _ l0_10 false _ ?side1 ?side2 ?side3 ?side4 A5.out).mono ?_); (case side1 => repeat (first | exact (Kd.C_below HR0_9.out HB.out) | (with_reducible refine Kd.C_alloc ?_ _) | (with_reducible refine Kd.C_drewN ?_ _) | (with_reducible refine Kd.C_drew ?_))); (case side2 => exact HC0_9.out); (case side3 => repeat (first | exact (Kd.C_below HR0_10.out HB.out) | (with_reducible refine Kd.C_alloc ?_ _) | (with_reducible refine Kd.C_drewN ?_ _) | (with_reducible refine Kd.C_drew ?_))); (case side4 => exact HC0_10.out); rintro e w11 ⟨rfl, hb⟩; refine ⟨_, rfl, ?_⟩; have n0_ := Aside0.mk (blk_below (g := gb226) (o := .cells #[.int .i64 a0_0, .int .i64 a0_1, .bool a0_2, .bool a0_3, .int .i64 a0_4, .int .i64 a0_5, .int .i64 a0_6, .int .u32 a0_7, .int .u32 a0_8, .slice A0_9 l0_9.length c0_9, .slice A0_10 l0_10.length c0_10] 45 (0, 0)) (by (with_reducible repeat (first | refine blk_drewN ?_ _ | refine blk_drew ?_ | refine blk_alloc ?_ _)); exact BK226.out) hb); have n1_ := Aside0.mk (below_step (by repeat (first | (with_reducible first | exact HB.out | apply below_alloc | apply pw_below_drewN | apply below_drew1 | refine below_set ?_ GE226.out) | exact HB.out)) hb); clear BK226; clear HB; have BK226 := n0_; have HB := n1_; clear n0_ n1_; (try clear hb); (try clear hb2); (try clear hk); (try clear hi); have hcz12_0 : w11.cell? ⟨gb226, 0, none⟩ = some (.int .i64 a0_0) := (blk_cell BK226.out 0).trans rfl; have hcz12_1 : w11.cell? ⟨gb226, 1, none⟩ = some (.int .i64 a0_1) := (blk_cell BK226.out 1).trans rfl; have hcz12_2 : w11.cell? ⟨gb226, 2, none⟩ = some (.bool a0_2) := (blk_cell BK226.out 2).trans rfl; have hcz12_3 : w11.cell? ⟨gb226, 3, none⟩ = some (.bool a0_3) := (blk_cell BK226.out 3).trans rfl; have hcz12_4 : w11.cell? ⟨gb226, 4, none⟩ = some (.int .i64 a0_4) := (blk_cell BK226.out 4).trans rfl; have hcz12_5 : w11.cell? ⟨gb226, 5, none⟩ = some (.int .i64 a0_5) := (blk_cell BK226.out 5).trans rfl; have hcz12_6 : w11.cell? ⟨gb226, 6, none⟩ = some (.int .i64 a0_6) := (blk_cell BK226.out 6).trans rfl; have hcz12_7 : w11.cell? ⟨gb226, 7, none⟩ = some (.int .u32 a0_7) := (blk_cell BK226.out 7).trans rfl; have hcz12_8 : w11.cell? ⟨gb226, 8, none⟩ = some (.int .u32 a0_8) := (blk_cell BK226.out 8).trans rfl; have hcz12_9 : w11.cell? ⟨gb226, 9, none⟩ = some (.slice A0_9 l0_9.length c0_9) := (blk_cell BK226.out 9).trans rfl; have hcz12_10 : w11.cell? ⟨gb226, 10, none⟩ = some (.slice A0_10 l0_10.length c0_10) := (blk_cell BK226.out 10).trans rfl; have hfz12_0 := blk_frozen BK226.out 0; have hfz12_1 := blk_frozen BK226.out 1; have hfz12_2 := blk_frozen BK226.out 2; have hfz12_3 := blk_frozen BK226.out 3; have hfz12_4 := blk_frozen BK226.out 4; have hfz12_5 := blk_frozen BK226.out 5; have hfz12_6 := blk_frozen BK226.out 6; have hfz12_7 := blk_frozen BK226.out 7; have hfz12_8 := blk_frozen BK226.out 8; have hfz12_9 := blk_frozen BK226.out 9; have hfz12_10 := blk_frozen BK226.out 10) | (go_at_call 31; (with_reducible refine (castellanref4_Is.calls a0_0 a0_1 a0_2 a0_3 a0_4 a0_5 a0_6 a0_7 a0_8 _ _ l0_9 _ _ l0_10 t228 _ ?side1 ?side2 ?side3 ?side4 A9.out).mono ?_); (case side1 => repeat (first | exact (Kd.C_below HR0_9.out HB.out) | (with_reducible refine Kd.C_alloc ?_ _) | (with_reducible refine Kd.C_drewN ?_ _) | (with_reducible refine Kd.C_drew ?_))); (case side2 => exact HC0_9.out); (case side3 => repeat (first | exact (Kd.C_below HR0_10.out HB.out) | (with_reducible refine Kd.C_alloc ?_ _) | (with_reducible refine Kd.C_drewN ?_ _) | (with_reducible refine Kd.C_drew ?_))); (case side4 => exact HC0_10.out); rintro e w13 ⟨rfl, hb⟩; have n0_ := Aside0.mk (blk_below (g := gb226) (o := .cells #[.int .i64 a0_0, .int .i64 a0_1, .bool a0_2, .bool a0_3, .int .i64 a0_4, .int .i64 a0_5, .int .i64 a0_6, .int .u32 a0_7, .int .u32 a0_8, .slice A0_9 l0_9.length c0_9, .slice A0_10 l0_10.length c0_10] 45 (0, 0)) (by (with_reducible repeat (first | refine blk_drewN ?_ _ | refine blk_drew ?_ | refine blk_alloc ?_ _)); exact BK226.out) hb); have n1_ := Aside0.mk (below_step (by repeat (first | (with_reducible first | exact HB.out | apply below_alloc | apply pw_below_drewN | apply below_drew1 | refine below_set ?_ GE226.out) | exact HB.out)) hb); clear BK226; clear HB; have BK226 := n0_; have HB := n1_; clear n0_ n1_; (try clear hb); (try clear hb2); (try clear hk); (try clear hi)))
      go_meet
      case rel => exact ⟨_, (!t228), (by first | rfl | (simp; done) | (simp [*]; done)), H', ⟨by first | omega | exact Nat.le_refl _⟩, ⟨by (with_reducible repeat (first | refine blk_drewN ?_ _ | refine blk_drew ?_ | refine blk_alloc ?_ _)); exact BK226.out⟩, ⟨by repeat (first | (with_reducible first | exact HB.out | apply below_alloc | apply pw_below_drewN | apply below_drew1 | refine below_set ?_ GE226.out) | exact HB.out)⟩⟩
  case rest =>
    clear HC3
    try clear c1
    try clear p2
    try clear c3
    try clear c6
    try clear c10
    try clear hcz10_0
    try clear hcz10_1
    try clear hcz10_10
    try clear hcz10_2
    try clear hcz10_3
    try clear hcz10_4
    try clear hcz10_5
    try clear hcz10_6
    try clear hcz10_7
    try clear hcz10_8
    try clear hcz10_9
    try clear hcz12_0
    try clear hcz12_1
    try clear hcz12_10
    try clear hcz12_2
    try clear hcz12_3
    try clear hcz12_4
    try clear hcz12_5
    try clear hcz12_6
    try clear hcz12_7
    try clear hcz12_8
    try clear hcz12_9
    try clear hcz7_0
    try clear hcz7_1
    try clear hcz7_10
    try clear hcz7_2
    try clear hcz7_3
    try clear hcz7_4
    try clear hcz7_5
    try clear hcz7_6
    try clear hcz7_7
    try clear hcz7_8
    try clear hcz7_9
    try clear hfz10_0
    try clear hfz10_1
    try clear hfz10_10
    try clear hfz10_2
    try clear hfz10_3
    try clear hfz10_4
    try clear hfz10_5
    try clear hfz10_6
    try clear hfz10_7
    try clear hfz10_8
    try clear hfz10_9
    try clear hfz12_0
    try clear hfz12_1
    try clear hfz12_10
    try clear hfz12_2
    try clear hfz12_3
    try clear hfz12_4
    try clear hfz12_5
    try clear hfz12_6
    try clear hfz12_7
    try clear hfz12_8
    try clear hfz12_9
    try clear hfz7_0
    try clear hfz7_1
    try clear hfz7_10
    try clear hfz7_2
    try clear hfz7_3
    try clear hfz7_4
    try clear hfz7_5
    try clear hfz7_6
    try clear hfz7_7
    try clear hfz7_8
    try clear hfz7_9
    obtain ⟨kq, x15_2, rfl, HA, HJ2, BK226, HB⟩ := hcut
    cases kq with
    | zero => exact absurd HA.out (by simp [castellanlaw4_IpCut.j0])
    | succ kj2 =>
      have H := HA.out
      clear HA
      simp only [castellanlaw4_IpCut.j0] at H
      by_cases c14 : x15_2 = true
      · subst c14
        have H1 : (some true) = some r := by rw [if_pos rfl] at H; exact H
        clear H
        have H := H1
        clear H1
        obtain rfl := Option.some.inj H
        go_wp2
        go_ret
        exact ⟨by first | rfl | (simp [errW_none, errW_some] <;> rfl) | (simp [*, errW_none, errW_some] <;> rfl), by repeat (first | (with_reducible first | exact HB.out | apply below_alloc | apply pw_below_drewN | apply below_drew1 | refine below_set ?_ GE226.out) | exact HB.out)⟩
      · replace c14 := Bool.eq_false_iff.mpr c14
        subst c14
        have H1 : ((ip_Build.f kj2 a0_0 a0_1 a0_2 a0_3 a0_4 a0_5 a0_6 a0_7 a0_8 l0_9 l0_10).bind fun bt229 => (if bt229.2 = 0 then (castellanlaw4_IpCut.j1 kj2 a1 bt229.1 (decide ((bt229.1.length : Int) < 20))) else (castellanlaw4_IpCut.j1 kj2 a1 bt229.1 true))) = some r := by rw [if_neg (show ¬ (false = true) by decide)] at H; exact H
        clear H
        have H := H1
        clear H1
        replace H := Option.bind_eq_some_iff.mp H
        obtain ⟨⟨t229, t232⟩, A150, H⟩ := H
        replace H : (if t232 = 0 then (castellanlaw4_IpCut.j1 kj2 a1 t229 (decide ((t229.length : Int) < 20))) else (castellanlaw4_IpCut.j1 kj2 a1 t229 true)) = some r := H
        have A15 := Aside0.mk A150
        clear A150
        have HC16 := Aside0.mk H
        clear H
        have hcz17_0 : wc.cell? ⟨gb226, 0, none⟩ = some (.int .i64 a0_0) := (blk_cell BK226.out 0).trans rfl
        have hcz17_1 : wc.cell? ⟨gb226, 1, none⟩ = some (.int .i64 a0_1) := (blk_cell BK226.out 1).trans rfl
        have hcz17_2 : wc.cell? ⟨gb226, 2, none⟩ = some (.bool a0_2) := (blk_cell BK226.out 2).trans rfl
        have hcz17_3 : wc.cell? ⟨gb226, 3, none⟩ = some (.bool a0_3) := (blk_cell BK226.out 3).trans rfl
        have hcz17_4 : wc.cell? ⟨gb226, 4, none⟩ = some (.int .i64 a0_4) := (blk_cell BK226.out 4).trans rfl
        have hcz17_5 : wc.cell? ⟨gb226, 5, none⟩ = some (.int .i64 a0_5) := (blk_cell BK226.out 5).trans rfl
        have hcz17_6 : wc.cell? ⟨gb226, 6, none⟩ = some (.int .i64 a0_6) := (blk_cell BK226.out 6).trans rfl
        have hcz17_7 : wc.cell? ⟨gb226, 7, none⟩ = some (.int .u32 a0_7) := (blk_cell BK226.out 7).trans rfl
        have hcz17_8 : wc.cell? ⟨gb226, 8, none⟩ = some (.int .u32 a0_8) := (blk_cell BK226.out 8).trans rfl
        have hcz17_9 : wc.cell? ⟨gb226, 9, none⟩ = some (.slice A0_9 l0_9.length c0_9) := (blk_cell BK226.out 9).trans rfl
        have hcz17_10 : wc.cell? ⟨gb226, 10, none⟩ = some (.slice A0_10 l0_10.length c0_10) := (blk_cell BK226.out 10).trans rfl
        have hfz17_0 := blk_frozen BK226.out 0
        have hfz17_1 := blk_frozen BK226.out 1
        have hfz17_2 := blk_frozen BK226.out 2
        have hfz17_3 := blk_frozen BK226.out 3
        have hfz17_4 := blk_frozen BK226.out 4
        have hfz17_5 := blk_frozen BK226.out 5
        have hfz17_6 := blk_frozen BK226.out 6
        have hfz17_7 := blk_frozen BK226.out 7
        have hfz17_8 := blk_frozen BK226.out 8
        have hfz17_9 := blk_frozen BK226.out 9
        have hfz17_10 := blk_frozen BK226.out 10
        go_upto_region 4 with (first | ((with_reducible refine gate_callee (f := 32) rfl ?_); refine goesL_ (some 18) rfl rfl Try.func32 (by kernel_rfl) rfl #[.agg #[.int .i64 a0_0, .int .i64 a0_1, .bool a0_2, .bool a0_3, .int .i64 a0_4, .int .i64 a0_5, .int .i64 a0_6, .int .u32 a0_7, .int .u32 a0_8, .slice A0_9 l0_9.length c0_9, .slice A0_10 l0_10.length c0_10]] rfl (by (try simp only [List.map_toArray, List.map_cons, List.map_nil]); first | done | rfl | (simp only [List.length_drop, List.length_take]; rfl)) ?_; (with_reducible refine (ip_Build.calls kj2 a0_0 a0_1 a0_2 a0_3 a0_4 a0_5 a0_6 a0_7 a0_8 (fun k_ => k_ < w.heap.size) _ _ l0_9 _ _ l0_10 t229 t232 _ ?side1 ?side2 ?side3 A15.out).mono ?_); (case side1 => exact Kd.V_mk HC0_9.out (Kd.F_below (Kd.C_F (Kd.heap_int .u8) HR0_9.out) (by repeat (first | (with_reducible first | exact HB.out | apply below_alloc | apply pw_below_drewN | apply below_drew1 | refine below_set ?_ GE226.out) | exact HB.out)))); (case side2 => repeat (first | exact (Kd.C_below HR0_10.out HB.out) | (with_reducible refine Kd.C_alloc ?_ _) | (with_reducible refine Kd.C_drewN ?_ _) | (with_reducible refine Kd.C_drew ?_))); (case side3 => exact HC0_10.out); rintro e w18 ⟨v230, rfl, ho0, hb⟩; refine ⟨_, rfl, ?_⟩; have n0_ := Aside0.mk (Kd.R_lower (Kd.R_mono (ok' := fun k_ => True) ho0 (fun _ hk_ => trivial)) (below_size (by repeat (first | (with_reducible first | exact HB.out | apply below_alloc | apply pw_below_drewN | apply below_drew1 | refine below_set ?_ GE226.out) | exact HB.out)))); have n1_ := Aside0.mk (blk_below (g := gb226) (o := .cells #[.int .i64 a0_0, .int .i64 a0_1, .bool a0_2, .bool a0_3, .int .i64 a0_4, .int .i64 a0_5, .int .i64 a0_6, .int .u32 a0_7, .int .u32 a0_8, .slice A0_9 l0_9.length c0_9, .slice A0_10 l0_10.length c0_10] 45 (0, 0)) (by (with_reducible repeat (first | refine blk_drewN ?_ _ | refine blk_drew ?_ | refine blk_alloc ?_ _)); exact BK226.out) hb); have n2_ := Aside0.mk (below_step (by repeat (first | (with_reducible first | exact HB.out | apply below_alloc | apply pw_below_drewN | apply below_drew1 | refine below_set ?_ GE226.out) | exact HB.out)) hb); clear BK226; clear HB; have HO231 := n0_; have BK226 := n1_; have HB := n2_; clear n0_ n1_ n2_; (try clear hb); (try clear hb2); (try clear hk); (try clear hi); (try clear ho0)))
        (try simp only [Act.put, List.setIfInBounds_toArray, List.set_cons_zero, List.set_cons_succ])
        go_cut [27] (fun v27 wc => ∃ (kq : Nat) (x27_15 : Bool), v27 = .bool x27_15 ∧ Aside0 (castellanlaw4_IpCut.j1 kq a1 t229 x27_15 = some r) ∧ Aside0 (kq ≤ kj2) ∧ Aside0 (Kd.R (Kd.int .u8) 5 wc w.heap.size (fun _ => True) v230 t229) ∧ Aside0 (wc.heap[gb226]? = some (.cells #[.int .i64 a0_0, .int .i64 a0_1, .bool a0_2, .bool a0_3, .int .i64 a0_4, .int .i64 a0_5, .int .i64 a0_6, .int .u32 a0_7, .int .u32 a0_8, (.slice A0_9 l0_9.length c0_9), (.slice A0_10 l0_10.length c0_10)] 45 (0, 0))) ∧ Aside0 (Below w.heap.size w wc))
        case first =>
          have H := HC16.out
          clear HC16
          by_cases c19 : t232 = 0
          · rw [if_pos c19] at H
            have c19b0 : (t232 == 0) = true := beq_iff_eq.mpr c19
            have c19b1 : (t232 != 0) = false := bne_eq_false_iff_eq.mpr c19
            clear c19
            (first | rw [c19b0] | (simp only [i64_w, i32_w]; rw [c19b0]) | skip)
            have H' := Aside0.mk H
            clear H
            obtain ⟨Ao20, co20, eo20⟩ := Kd.R_slice HO231.out
            subst eo20
            go_wp2
            go_meet
            case rel => exact ⟨_, (decide ((t229.length : Int) < 20)), (by first | rfl | (simp; done) | (simp [*]; done)), H', ⟨by have := HJ2.out; first | omega | exact Nat.le_refl _⟩, ⟨by (with_reducible repeat (first | apply Kd.R_alloc | apply Kd.R_drewN | apply Kd.R_drew)); exact HO231.out⟩, ⟨by (with_reducible repeat (first | refine blk_drewN ?_ _ | refine blk_drew ?_ | refine blk_alloc ?_ _)); exact BK226.out⟩, ⟨by repeat (first | (with_reducible first | exact HB.out | apply below_alloc | apply pw_below_drewN | apply below_drew1 | refine below_set ?_ GE226.out) | exact HB.out)⟩⟩
          · rw [if_neg c19] at H
            have c19b0 : (t232 == 0) = false := beq_eq_false_iff_ne.mpr c19
            have c19b1 : (t232 != 0) = true := bne_iff_ne.mpr c19
            (first | rw [c19b0] | (simp only [i64_w, i32_w]; rw [c19b0]) | skip)
            have H' := Aside0.mk H
            clear H
            go_wp2
            go_meet
            case rel => exact ⟨_, (true), (by first | rfl | (simp; done) | (simp [*]; done)), H', ⟨by have := HJ2.out; first | omega | exact Nat.le_refl _⟩, ⟨by (with_reducible repeat (first | apply Kd.R_alloc | apply Kd.R_drewN | apply Kd.R_drew)); exact HO231.out⟩, ⟨by (with_reducible repeat (first | refine blk_drewN ?_ _ | refine blk_drew ?_ | refine blk_alloc ?_ _)); exact BK226.out⟩, ⟨by repeat (first | (with_reducible first | exact HB.out | apply below_alloc | apply pw_below_drewN | apply below_drew1 | refine below_set ?_ GE226.out) | exact HB.out)⟩⟩
        case rest =>
          clear HC16
          try clear c1
          try clear p2
          try clear c3
          try clear c6
          try clear c10
          try clear c14
          try clear c19
          try clear c19b0
          try clear c19b1
          try clear hcz10_0
          try clear hcz10_1
          try clear hcz10_10
          try clear hcz10_2
          try clear hcz10_3
          try clear hcz10_4
          try clear hcz10_5
          try clear hcz10_6
          try clear hcz10_7
          try clear hcz10_8
          try clear hcz10_9
          try clear hcz12_0
          try clear hcz12_1
          try clear hcz12_10
          try clear hcz12_2
          try clear hcz12_3
          try clear hcz12_4
          try clear hcz12_5
          try clear hcz12_6
          try clear hcz12_7
          try clear hcz12_8
          try clear hcz12_9
          try clear hcz17_0
          try clear hcz17_1
          try clear hcz17_10
          try clear hcz17_2
          try clear hcz17_3
          try clear hcz17_4
          try clear hcz17_5
          try clear hcz17_6
          try clear hcz17_7
          try clear hcz17_8
          try clear hcz17_9
          try clear hcz7_0
          try clear hcz7_1
          try clear hcz7_10
          try clear hcz7_2
          try clear hcz7_3
          try clear hcz7_4
          try clear hcz7_5
          try clear hcz7_6
          try clear hcz7_7
          try clear hcz7_8
          try clear hcz7_9
          try clear hfz10_0
          try clear hfz10_1
          try clear hfz10_10
          try clear hfz10_2
          try clear hfz10_3
          try clear hfz10_4
          try clear hfz10_5
          try clear hfz10_6
          try clear hfz10_7
          try clear hfz10_8
          try clear hfz10_9
          try clear hfz12_0
          try clear hfz12_1
          try clear hfz12_10
          try clear hfz12_2
          try clear hfz12_3
          try clear hfz12_4
          try clear hfz12_5
          try clear hfz12_6
          try clear hfz12_7
          try clear hfz12_8
          try clear hfz12_9
          try clear hfz17_0
          try clear hfz17_1
          try clear hfz17_10
          try clear hfz17_2
          try clear hfz17_3
          try clear hfz17_4
          try clear hfz17_5
          try clear hfz17_6
          try clear hfz17_7
          try clear hfz17_8
          try clear hfz17_9
          try clear hfz7_0
          try clear hfz7_1
          try clear hfz7_10
          try clear hfz7_2
          try clear hfz7_3
          try clear hfz7_4
          try clear hfz7_5
          try clear hfz7_6
          try clear hfz7_7
          try clear hfz7_8
          try clear hfz7_9
          try clear p2
          obtain ⟨kq, x27_15, rfl, HA, HJ15, HO_5, BK226, HB⟩ := hcut
          cases kq with
          | zero => exact absurd HA.out (by simp [castellanlaw4_IpCut.j1])
          | succ kj15 =>
            have H := HA.out
            clear HA
            simp only [castellanlaw4_IpCut.j1] at H
            by_cases c21 : x27_15 = true
            · subst c21
              have H1 : (some false) = some r := by rw [if_pos rfl] at H; exact H
              clear H
              have H := H1
              clear H1
              exact absurd (H.trans (congrArg some HRT.out)) (by simp)
            · replace c21 := Bool.eq_false_iff.mpr c21
              subst c21
              have H1 : (if (t229.length : Int) = 0 then (none) else (if 0 ≤ (Int.tmod (Go.bits .and .i64 a1 65535) (t229.length : Int)) then (if (Int.tmod (Go.bits .and .i64 a1 65535) (t229.length : Int)) ≤ (t229.length : Int) then ((ip_Parse.f kj15 (t229.take ((Int.tmod (Go.bits .and .i64 a1 65535) (t229.length : Int)) : Int).toNat)).bind fun bt237 => (if bt237.2.2.2.2.2.2.2.2.2.2.2 = 3 then ((castellanlaw4_known.f kj15).bind fun t254 => (some t254)) else (some false))) else (none)) else (none))) = some r := by rw [if_neg (show ¬ (false = true) by decide)] at H; exact H
              clear H
              have H := H1
              clear H1
              by_cases c22 : (t229.length : Int) = 0
              · rw [if_pos c22] at H
                exact absurd H (by simp)
              · rw [if_neg c22] at H
                have c22b0 : ((t229.length : Int) == 0) = false := beq_eq_false_iff_ne.mpr c22
                have c22b1 : ((t229.length : Int) != 0) = true := bne_iff_ne.mpr c22
                have c22b2 : ¬ (t229 = []) := fun h_ => c22 (by rw [h_]; rfl)
                obtain ⟨ji23, hji23⟩ : ∃ j_ : Int, (Int.tmod (Go.bits .and .i64 a1 65535) (t229.length : Int)) = j_ := ⟨_, rfl⟩
                replace H : (if 0 ≤ (ji23) then (if (ji23) ≤ (t229.length : Int) then ((ip_Parse.f kj15 (t229.take ((ji23) : Int).toNat)).bind fun bt237 => (if bt237.2.2.2.2.2.2.2.2.2.2.2 = 3 then ((castellanlaw4_known.f kj15).bind fun t254 => (some t254)) else (some false))) else (none)) else (none)) = some r := by first | (rw [hji23] at H; exact H) | (simp only [hji23] at H ⊢; exact H)
                by_cases c24 : 0 ≤ (ji23)
                · rw [if_pos c24] at H
                  have c24b0 := eq_true c24
                  have c24b1 : decide (0 ≤ (ji23)) = true := decide_eq_true c24
                  clear c24
                  by_cases c25 : (ji23) ≤ (t229.length : Int)
                  · rw [if_pos c25] at H
                    have c25b0 := eq_true c25
                    have c25b1 : decide ((ji23) ≤ (t229.length : Int)) = true := decide_eq_true c25
                    clear c25
                    obtain ⟨y233, hy233⟩ : ∃ y_ : List Int, y_ = (t229.take ((ji23) : Int).toNat) := ⟨_, rfl⟩
                    replace H : ((ip_Parse.f kj15 y233).bind fun bt237 => (if bt237.2.2.2.2.2.2.2.2.2.2.2 = 3 then ((castellanlaw4_known.f kj15).bind fun t254 => (some t254)) else (some false))) = some r := by first | (rw [hy233]; with_reducible exact H) | (have H2_ := (Option.bind_some _ _).symm.trans H; rw [hy233]; with_reducible exact H2_) | (have H2_ := (Option.bind_some _ _).symm.trans H; with_reducible exact H2_) | with_reducible exact H | (rw [hy233]; exact H) | exact H
                    have Ny233 := Aside0.mk hy233
                    clear hy233
                    replace H := Option.bind_eq_some_iff.mp H
                    obtain ⟨⟨t237, t238, t239, t240, t241, t242, t243, t244, t245, t246, t249, t252⟩, A260, H⟩ := H
                    replace H : (if t252 = 3 then ((castellanlaw4_known.f kj15).bind fun t254 => (some t254)) else (some false)) = some r := H
                    have A26 := Aside0.mk A260
                    clear A260
                    by_cases c27 : t252 = 3
                    · rw [if_pos c27] at H
                      have c27b0 : (t252 == 3) = true := beq_iff_eq.mpr c27
                      have c27b1 : (t252 != 3) = false := bne_eq_false_iff_eq.mpr c27
                      clear c27
                      replace H := Option.bind_eq_some_iff.mp H
                      obtain ⟨t254, A280, H⟩ := H
                      replace H : (some t254) = some r := H
                      have A28 := Aside0.mk A280
                      clear A280
                      obtain rfl := Option.some.inj H
                      obtain ⟨Ao29, co29, eo29⟩ := Kd.R_slice HO_5.out
                      subst eo29
                      have q30 : ((ji23) : Int) ≤ ((t229.length : Int) : Int) := of_decide_eq_true (by first | (with_reducible assumption) | assumption)
                      obtain ⟨i030, hi030, _, hsz30, _⟩ := info_parts info5
                      have hroom30 : t229.length ≤ co29 := (Kd.R_reads' HO_5.out).2.1
                      have hC30 : Kd.C (Kd.int .u8) _ Ao29 t229.length t229 := (Kd.R_reads' HO_5.out).2.2
                      have hcut30 := cut_to (P := Try.prog) 24 5 .i64 Try.underlying24 hi030 Ao29 t229.length co29 (ji23) (of_decide_eq_true (by first | (with_reducible assumption) | assumption)) q30 hroom30
                      have hr30 := Kd.C_take (m := ((ji23) : Int).toNat) hC30 (by omega)
                      have hy30 : y233.length = ((ji23) : Int).toNat := (by rw [Ny233.out, List.length_take]; omega)
                      rw [← Ny233.out] at hr30
                      rw [← hy30] at hcut30
                      have HR236 := Aside0.mk hr30
                      have HC236 := Aside0.mk (show y233.length ≤ co29 from by omega)
                      clear hr30 hC30 hroom30 hi030 hsz30
                      have KY30 := Aside0.mk hy30
                      clear hy30
                      have KL30 := Aside0.mk (show ((ji23) : Int).toNat ≤ t229.length from by omega)
                      replace q30 := eq_true q30
                      go_wp2_with (first | ((with_reducible refine gate_callee (f := 24) rfl ?_); refine goesL_ (some 36) rfl rfl Try.func24 (by kernel_rfl) rfl #[.slice Ao29 y233.length co29] rfl (by (try simp only [List.map_toArray, List.map_cons, List.map_nil]); first | done | rfl | (simp only [List.length_drop, List.length_take]; rfl)) ?_; (with_reducible refine (ip_Parse.calls kj15 _ _ y233 t237 t238 t239 t240 t241 t242 t243 t244 t245 t246 t249 t252 _ ?side1 ?side2 A26.out).mono ?_); (case side1 => repeat (first | exact (by repeat (first | (with_reducible exact HR236.out) | (with_reducible refine Kd.C_alloc ?_ _) | (with_reducible refine Kd.C_drewN ?_ _) | (with_reducible refine Kd.C_drew ?_) | exact HR236.out)) | (with_reducible refine Kd.C_alloc ?_ _) | (with_reducible refine Kd.C_drewN ?_ _) | (with_reducible refine Kd.C_drew ?_))); (case side2 => exact HC236.out); rintro e w31 ⟨v247, v250, rfl, ho0, ho1, hb⟩; refine ⟨_, rfl, ?_⟩; have n0_ := Aside0.mk (Kd.R_mono (Kd.R_told (Kd.R_told (Kd.R_old (by (with_reducible repeat (first | apply Kd.R_alloc | apply Kd.R_drewN | apply Kd.R_drew)); exact HO_5.out) hb) (Kd.R_base ho0)) (Kd.R_base ho1)) (fun _ h_ => h_.1)); have n1_ := Aside0.mk (Kd.R_lower (Kd.R_new' ho0 (Kd.R_lt (by (with_reducible repeat (first | apply Kd.R_alloc | apply Kd.R_drewN | apply Kd.R_drew)); exact HO_5.out))) (below_size (by repeat (first | (with_reducible first | exact HB.out | apply below_alloc | apply pw_below_drewN | apply below_drew1 | refine below_set ?_ GE226.out) | exact HB.out)))); have n2_ := Aside0.mk (Kd.R_lower (Kd.R_new' ho1 (Kd.R_lt (by (with_reducible repeat (first | apply Kd.R_alloc | apply Kd.R_drewN | apply Kd.R_drew)); exact HO_5.out))) (below_size (by repeat (first | (with_reducible first | exact HB.out | apply below_alloc | apply pw_below_drewN | apply below_drew1 | refine below_set ?_ GE226.out) | exact HB.out)))); have n3_ := Aside0.mk (blk_below (g := gb226) (o := .cells #[.int .i64 a0_0, .int .i64 a0_1, .bool a0_2, .bool a0_3, .int .i64 a0_4, .int .i64 a0_5, .int .i64 a0_6, .int .u32 a0_7, .int .u32 a0_8, .slice A0_9 l0_9.length c0_9, .slice A0_10 l0_10.length c0_10] 45 (0, 0)) (by (with_reducible repeat (first | refine blk_drewN ?_ _ | refine blk_drew ?_ | refine blk_alloc ?_ _)); exact BK226.out) hb); have n4_ := Aside0.mk (Kd.C_below (by repeat (first | (with_reducible exact HR236.out) | (with_reducible refine Kd.C_alloc ?_ _) | (with_reducible refine Kd.C_drewN ?_ _) | (with_reducible refine Kd.C_drew ?_) | exact HR236.out)) hb); have n5_ := Aside0.mk (below_step (by repeat (first | (with_reducible first | exact HB.out | apply below_alloc | apply pw_below_drewN | apply below_drew1 | refine below_set ?_ GE226.out) | exact HB.out)) hb); clear HO_5; clear BK226; clear HR236; clear HB; have HO_5 := n0_; have HO248 := n1_; have HO251 := n2_; have BK226 := n3_; have HR236 := n4_; have HB := n5_; clear n0_ n1_ n2_ n3_ n4_ n5_; (try clear hb); (try clear hb2); (try clear hk); (try clear hi); (try clear ho0); (try clear ho1)) | ((with_reducible refine gate_dst (N := 7) rfl ?_); (try (refine gate_guard (by rfl) ?_; dsimp only)); refine box_event ?hg (N := 7) ?hd (cs := #[.int .i64 0, .int .i64 0, .bool false, .bool false, .int .i64 0, .int .i64 0, .int .i64 0, .int .u32 0, .int .u32 0, .slice none 0 0, .slice none 0 0]) (t := 45) ?hr ?_; (case hd => rfl); (case hg => rfl); (case hr => first | (go_simp; done) | (go_simp; rfl)); intro gb253 hg w32 hbox hb; have n0_ := Aside0.mk (Kd.R_below (by (with_reducible repeat (first | apply Kd.R_alloc | apply Kd.R_drewN | apply Kd.R_drew)); exact HO_5.out) hb); have n1_ := Aside0.mk (Kd.R_below (by (with_reducible repeat (first | apply Kd.R_alloc | apply Kd.R_drewN | apply Kd.R_drew)); exact HO248.out) hb); have n2_ := Aside0.mk (Kd.R_below (by (with_reducible repeat (first | apply Kd.R_alloc | apply Kd.R_drewN | apply Kd.R_drew)); exact HO251.out) hb); have n3_ := Aside0.mk (blk_below (g := gb226) (o := .cells #[.int .i64 a0_0, .int .i64 a0_1, .bool a0_2, .bool a0_3, .int .i64 a0_4, .int .i64 a0_5, .int .i64 a0_6, .int .u32 a0_7, .int .u32 a0_8, .slice A0_9 l0_9.length c0_9, .slice A0_10 l0_10.length c0_10] 45 (0, 0)) (by (with_reducible repeat (first | refine blk_drewN ?_ _ | refine blk_drew ?_ | refine blk_alloc ?_ _)); exact BK226.out) hb); have n4_ := Aside0.mk (Kd.C_below (by repeat (first | (with_reducible exact HR236.out) | (with_reducible refine Kd.C_alloc ?_ _) | (with_reducible refine Kd.C_drewN ?_ _) | (with_reducible refine Kd.C_drew ?_) | exact HR236.out)) hb); have n5_ := Aside0.mk (below_step (by repeat (first | (with_reducible first | exact HB.out | apply below_alloc | apply pw_below_drewN | apply below_drew1 | refine below_set ?_ GE226.out) | exact HB.out)) hb); have n6_ := Aside0.mk (hbox); have n7_ := Aside0.mk ((by rw [hg]; exact (below_size (by repeat (first | (with_reducible first | exact HB.out | apply below_alloc | apply pw_below_drewN | apply below_drew1 | refine below_set ?_ GE226.out) | exact HB.out))) : w.heap.size ≤ gb253)); have n8_ := Aside0.mk ((by rw [hg]; exact (below_size (by repeat (first | (with_reducible first | exact HB.out | apply below_alloc | apply pw_below_drewN | apply below_drew1 | refine below_set ?_ GE226.out) | exact HB.out))) : w.heap.size ≤ gb253)); have n9_ := Aside0.mk ((by rw [hg]; exact Nat.ne_of_lt (blk_lt (g := gb226) (o := .cells #[.int .i64 a0_0, .int .i64 a0_1, .bool a0_2, .bool a0_3, .int .i64 a0_4, .int .i64 a0_5, .int .i64 a0_6, .int .u32 a0_7, .int .u32 a0_8, .slice A0_9 l0_9.length c0_9, .slice A0_10 l0_10.length c0_10] 45 (0, 0)) (by (with_reducible repeat (first | refine blk_drewN ?_ _ | refine blk_drew ?_ | refine blk_alloc ?_ _)); exact BK226.out)) : gb226 ≠ gb253)); have n10_ := Aside0.mk ((by rw [hg]; exact Nat.ne_of_gt (blk_lt (g := gb226) (o := .cells #[.int .i64 a0_0, .int .i64 a0_1, .bool a0_2, .bool a0_3, .int .i64 a0_4, .int .i64 a0_5, .int .i64 a0_6, .int .u32 a0_7, .int .u32 a0_8, .slice A0_9 l0_9.length c0_9, .slice A0_10 l0_10.length c0_10] 45 (0, 0)) (by (with_reducible repeat (first | refine blk_drewN ?_ _ | refine blk_drew ?_ | refine blk_alloc ?_ _)); exact BK226.out)) : gb253 ≠ gb226)); clear HO_5; clear HO248; clear HO251; clear BK226; clear HR236; clear HB; have HO_5 := n0_; have HO248 := n1_; have HO251 := n2_; have BK226 := n3_; have HR236 := n4_; have HB := n5_; have BK253 := n6_; have GW253 := n7_; have GE253 := n8_; have NB226_253 := n9_; have NB253_226 := n10_; clear n0_ n1_ n2_ n3_ n4_ n5_ n6_ n7_ n8_ n9_ n10_; clear hb hbox hg; have hnb33 := NB253_226.out; have hnc33 := NB226_253.out; have hcz34_0 : w32.cell? ⟨gb253, 0, none⟩ = some (.int .i64 0) := (blk_cell BK253.out 0).trans rfl; have hcz34_1 : w32.cell? ⟨gb253, 1, none⟩ = some (.int .i64 0) := (blk_cell BK253.out 1).trans rfl; have hcz34_2 : w32.cell? ⟨gb253, 2, none⟩ = some (.bool false) := (blk_cell BK253.out 2).trans rfl; have hcz34_3 : w32.cell? ⟨gb253, 3, none⟩ = some (.bool false) := (blk_cell BK253.out 3).trans rfl; have hcz34_4 : w32.cell? ⟨gb253, 4, none⟩ = some (.int .i64 0) := (blk_cell BK253.out 4).trans rfl; have hcz34_5 : w32.cell? ⟨gb253, 5, none⟩ = some (.int .i64 0) := (blk_cell BK253.out 5).trans rfl; have hcz34_6 : w32.cell? ⟨gb253, 6, none⟩ = some (.int .i64 0) := (blk_cell BK253.out 6).trans rfl; have hcz34_7 : w32.cell? ⟨gb253, 7, none⟩ = some (.int .u32 0) := (blk_cell BK253.out 7).trans rfl; have hcz34_8 : w32.cell? ⟨gb253, 8, none⟩ = some (.int .u32 0) := (blk_cell BK253.out 8).trans rfl; have hcz34_9 : w32.cell? ⟨gb253, 9, none⟩ = some (.slice none 0 0) := (blk_cell BK253.out 9).trans rfl; have hcz34_10 : w32.cell? ⟨gb253, 10, none⟩ = some (.slice none 0 0) := (blk_cell BK253.out 10).trans rfl; have hfz34_0 := blk_frozen BK253.out 0; have hfz34_1 := blk_frozen BK253.out 1; have hfz34_2 := blk_frozen BK253.out 2; have hfz34_3 := blk_frozen BK253.out 3; have hfz34_4 := blk_frozen BK253.out 4; have hfz34_5 := blk_frozen BK253.out 5; have hfz34_6 := blk_frozen BK253.out 6; have hfz34_7 := blk_frozen BK253.out 7; have hfz34_8 := blk_frozen BK253.out 8; have hfz34_9 := blk_frozen BK253.out 9; have hfz34_10 := blk_frozen BK253.out 10; obtain ⟨Ao35, co35, eo35⟩ := Kd.R_slice HO248.out; subst eo35; obtain ⟨Ao36, co36, eo36⟩ := Kd.R_slice HO251.out; subst eo36) | (go_at_call 29; (with_reducible refine (castellanlaw4_known.calls kj15  t254 _ A28.out).mono ?_); rintro e w37 ⟨rfl, hb⟩; have n0_ := Aside0.mk (Kd.R_below (by (with_reducible repeat (first | apply Kd.R_alloc | apply Kd.R_drewN | apply Kd.R_drew)); exact (Kd.R_mono (Kd.R_far (p := ⟨gb253, 10, none⟩) (Kd.R_far (p := ⟨gb253, 9, none⟩) (Kd.R_far (p := ⟨gb253, 8, none⟩) (Kd.R_far (p := ⟨gb253, 7, none⟩) (Kd.R_far (p := ⟨gb253, 6, none⟩) (Kd.R_far (p := ⟨gb253, 5, none⟩) (Kd.R_far (p := ⟨gb253, 4, none⟩) (Kd.R_far (p := ⟨gb253, 3, none⟩) (Kd.R_far (p := ⟨gb253, 2, none⟩) (Kd.R_far (p := ⟨gb253, 1, none⟩) (Kd.R_far (p := ⟨gb253, 0, none⟩) (Kd.R_types HO_5.out BK253.out (by decide)) (fun _ hk => hk.2) (.int .i64 t237)) (fun _ hk => hk.2) (.int .i64 t238)) (fun _ hk => hk.2) (.bool t239)) (fun _ hk => hk.2) (.bool t240)) (fun _ hk => hk.2) (.int .i64 t241)) (fun _ hk => hk.2) (.int .i64 t242)) (fun _ hk => hk.2) (.int .i64 t243)) (fun _ hk => hk.2) (.int .u32 t244)) (fun _ hk => hk.2) (.int .u32 t245)) (fun _ hk => hk.2) (.slice Ao35 t246.length co35)) (fun _ hk => hk.2) (.slice Ao36 t249.length co36)) (fun _ h_ => h_.1))) hb); have n1_ := Aside0.mk (Kd.R_below (by (with_reducible repeat (first | apply Kd.R_alloc | apply Kd.R_drewN | apply Kd.R_drew)); exact (Kd.R_mono (Kd.R_far (p := ⟨gb253, 10, none⟩) (Kd.R_far (p := ⟨gb253, 9, none⟩) (Kd.R_far (p := ⟨gb253, 8, none⟩) (Kd.R_far (p := ⟨gb253, 7, none⟩) (Kd.R_far (p := ⟨gb253, 6, none⟩) (Kd.R_far (p := ⟨gb253, 5, none⟩) (Kd.R_far (p := ⟨gb253, 4, none⟩) (Kd.R_far (p := ⟨gb253, 3, none⟩) (Kd.R_far (p := ⟨gb253, 2, none⟩) (Kd.R_far (p := ⟨gb253, 1, none⟩) (Kd.R_far (p := ⟨gb253, 0, none⟩) (Kd.R_types HO248.out BK253.out (by decide)) (fun _ hk => hk.2) (.int .i64 t237)) (fun _ hk => hk.2) (.int .i64 t238)) (fun _ hk => hk.2) (.bool t239)) (fun _ hk => hk.2) (.bool t240)) (fun _ hk => hk.2) (.int .i64 t241)) (fun _ hk => hk.2) (.int .i64 t242)) (fun _ hk => hk.2) (.int .i64 t243)) (fun _ hk => hk.2) (.int .u32 t244)) (fun _ hk => hk.2) (.int .u32 t245)) (fun _ hk => hk.2) (.slice Ao35 t246.length co35)) (fun _ hk => hk.2) (.slice Ao36 t249.length co36)) (fun _ h_ => h_.1))) hb); have n2_ := Aside0.mk (Kd.R_below (by (with_reducible repeat (first | apply Kd.R_alloc | apply Kd.R_drewN | apply Kd.R_drew)); exact (Kd.R_mono (Kd.R_far (p := ⟨gb253, 10, none⟩) (Kd.R_far (p := ⟨gb253, 9, none⟩) (Kd.R_far (p := ⟨gb253, 8, none⟩) (Kd.R_far (p := ⟨gb253, 7, none⟩) (Kd.R_far (p := ⟨gb253, 6, none⟩) (Kd.R_far (p := ⟨gb253, 5, none⟩) (Kd.R_far (p := ⟨gb253, 4, none⟩) (Kd.R_far (p := ⟨gb253, 3, none⟩) (Kd.R_far (p := ⟨gb253, 2, none⟩) (Kd.R_far (p := ⟨gb253, 1, none⟩) (Kd.R_far (p := ⟨gb253, 0, none⟩) (Kd.R_types HO251.out BK253.out (by decide)) (fun _ hk => hk.2) (.int .i64 t237)) (fun _ hk => hk.2) (.int .i64 t238)) (fun _ hk => hk.2) (.bool t239)) (fun _ hk => hk.2) (.bool t240)) (fun _ hk => hk.2) (.int .i64 t241)) (fun _ hk => hk.2) (.int .i64 t242)) (fun _ hk => hk.2) (.int .i64 t243)) (fun _ hk => hk.2) (.int .u32 t244)) (fun _ hk => hk.2) (.int .u32 t245)) (fun _ hk => hk.2) (.slice Ao35 t246.length co35)) (fun _ hk => hk.2) (.slice Ao36 t249.length co36)) (fun _ h_ => h_.1))) hb); have n3_ := Aside0.mk (blk_below (g := gb226) (o := .cells #[.int .i64 a0_0, .int .i64 a0_1, .bool a0_2, .bool a0_3, .int .i64 a0_4, .int .i64 a0_5, .int .i64 a0_6, .int .u32 a0_7, .int .u32 a0_8, .slice A0_9 l0_9.length c0_9, .slice A0_10 l0_10.length c0_10] 45 (0, 0)) (by (with_reducible repeat (first | refine blk_drewN ?_ _ | refine blk_drew ?_ | refine blk_alloc ?_ _)); refine blk_far ?_ NB226_253.out _; (with_reducible repeat (first | refine blk_drewN ?_ _ | refine blk_drew ?_ | refine blk_alloc ?_ _)); refine blk_far ?_ NB226_253.out _; (with_reducible repeat (first | refine blk_drewN ?_ _ | refine blk_drew ?_ | refine blk_alloc ?_ _)); refine blk_far ?_ NB226_253.out _; (with_reducible repeat (first | refine blk_drewN ?_ _ | refine blk_drew ?_ | refine blk_alloc ?_ _)); refine blk_far ?_ NB226_253.out _; (with_reducible repeat (first | refine blk_drewN ?_ _ | refine blk_drew ?_ | refine blk_alloc ?_ _)); refine blk_far ?_ NB226_253.out _; (with_reducible repeat (first | refine blk_drewN ?_ _ | refine blk_drew ?_ | refine blk_alloc ?_ _)); refine blk_far ?_ NB226_253.out _; (with_reducible repeat (first | refine blk_drewN ?_ _ | refine blk_drew ?_ | refine blk_alloc ?_ _)); refine blk_far ?_ NB226_253.out _; (with_reducible repeat (first | refine blk_drewN ?_ _ | refine blk_drew ?_ | refine blk_alloc ?_ _)); refine blk_far ?_ NB226_253.out _; (with_reducible repeat (first | refine blk_drewN ?_ _ | refine blk_drew ?_ | refine blk_alloc ?_ _)); refine blk_far ?_ NB226_253.out _; (with_reducible repeat (first | refine blk_drewN ?_ _ | refine blk_drew ?_ | refine blk_alloc ?_ _)); refine blk_far ?_ NB226_253.out _; (with_reducible repeat (first | refine blk_drewN ?_ _ | refine blk_drew ?_ | refine blk_alloc ?_ _)); refine blk_far ?_ NB226_253.out _; (with_reducible repeat (first | refine blk_drewN ?_ _ | refine blk_drew ?_ | refine blk_alloc ?_ _)); exact BK226.out) hb); have n4_ := Aside0.mk (blk_below (g := gb253) (o := .cells #[.int .i64 t237, .int .i64 t238, .bool t239, .bool t240, .int .i64 t241, .int .i64 t242, .int .i64 t243, .int .u32 t244, .int .u32 t245, .slice Ao35 t246.length co35, .slice Ao36 t249.length co36] 45 (0, 0)) (by (with_reducible repeat (first | refine blk_drewN ?_ _ | refine blk_drew ?_ | refine blk_alloc ?_ _)); refine blk_put (cs := #[.int .i64 t237, .int .i64 t238, .bool t239, .bool t240, .int .i64 t241, .int .i64 t242, .int .i64 t243, .int .u32 t244, .int .u32 t245, .slice Ao35 t246.length co35, .slice none 0 0]) ?_ 10 _ rfl; (with_reducible repeat (first | refine blk_drewN ?_ _ | refine blk_drew ?_ | refine blk_alloc ?_ _)); refine blk_put (cs := #[.int .i64 t237, .int .i64 t238, .bool t239, .bool t240, .int .i64 t241, .int .i64 t242, .int .i64 t243, .int .u32 t244, .int .u32 t245, .slice none 0 0, .slice none 0 0]) ?_ 9 _ rfl; (with_reducible repeat (first | refine blk_drewN ?_ _ | refine blk_drew ?_ | refine blk_alloc ?_ _)); refine blk_put (cs := #[.int .i64 t237, .int .i64 t238, .bool t239, .bool t240, .int .i64 t241, .int .i64 t242, .int .i64 t243, .int .u32 t244, .int .u32 0, .slice none 0 0, .slice none 0 0]) ?_ 8 _ rfl; (with_reducible repeat (first | refine blk_drewN ?_ _ | refine blk_drew ?_ | refine blk_alloc ?_ _)); refine blk_put (cs := #[.int .i64 t237, .int .i64 t238, .bool t239, .bool t240, .int .i64 t241, .int .i64 t242, .int .i64 t243, .int .u32 0, .int .u32 0, .slice none 0 0, .slice none 0 0]) ?_ 7 _ rfl; (with_reducible repeat (first | refine blk_drewN ?_ _ | refine blk_drew ?_ | refine blk_alloc ?_ _)); refine blk_put (cs := #[.int .i64 t237, .int .i64 t238, .bool t239, .bool t240, .int .i64 t241, .int .i64 t242, .int .i64 0, .int .u32 0, .int .u32 0, .slice none 0 0, .slice none 0 0]) ?_ 6 _ rfl; (with_reducible repeat (first | refine blk_drewN ?_ _ | refine blk_drew ?_ | refine blk_alloc ?_ _)); refine blk_put (cs := #[.int .i64 t237, .int .i64 t238, .bool t239, .bool t240, .int .i64 t241, .int .i64 0, .int .i64 0, .int .u32 0, .int .u32 0, .slice none 0 0, .slice none 0 0]) ?_ 5 _ rfl; (with_reducible repeat (first | refine blk_drewN ?_ _ | refine blk_drew ?_ | refine blk_alloc ?_ _)); refine blk_put (cs := #[.int .i64 t237, .int .i64 t238, .bool t239, .bool t240, .int .i64 0, .int .i64 0, .int .i64 0, .int .u32 0, .int .u32 0, .slice none 0 0, .slice none 0 0]) ?_ 4 _ rfl; (with_reducible repeat (first | refine blk_drewN ?_ _ | refine blk_drew ?_ | refine blk_alloc ?_ _)); refine blk_put (cs := #[.int .i64 t237, .int .i64 t238, .bool t239, .bool false, .int .i64 0, .int .i64 0, .int .i64 0, .int .u32 0, .int .u32 0, .slice none 0 0, .slice none 0 0]) ?_ 3 _ rfl; (with_reducible repeat (first | refine blk_drewN ?_ _ | refine blk_drew ?_ | refine blk_alloc ?_ _)); refine blk_put (cs := #[.int .i64 t237, .int .i64 t238, .bool false, .bool false, .int .i64 0, .int .i64 0, .int .i64 0, .int .u32 0, .int .u32 0, .slice none 0 0, .slice none 0 0]) ?_ 2 _ rfl; (with_reducible repeat (first | refine blk_drewN ?_ _ | refine blk_drew ?_ | refine blk_alloc ?_ _)); refine blk_put (cs := #[.int .i64 t237, .int .i64 0, .bool false, .bool false, .int .i64 0, .int .i64 0, .int .i64 0, .int .u32 0, .int .u32 0, .slice none 0 0, .slice none 0 0]) ?_ 1 _ rfl; (with_reducible repeat (first | refine blk_drewN ?_ _ | refine blk_drew ?_ | refine blk_alloc ?_ _)); refine blk_put (cs := #[.int .i64 0, .int .i64 0, .bool false, .bool false, .int .i64 0, .int .i64 0, .int .i64 0, .int .u32 0, .int .u32 0, .slice none 0 0, .slice none 0 0]) ?_ 0 _ rfl; (with_reducible repeat (first | refine blk_drewN ?_ _ | refine blk_drew ?_ | refine blk_alloc ?_ _)); exact BK253.out) hb); have n5_ := Aside0.mk (below_step (by repeat (first | (with_reducible first | exact HB.out | apply below_alloc | apply pw_below_drewN | apply below_drew1 | refine below_set ?_ GE226.out | refine below_set ?_ GE253.out) | exact HB.out)) hb); clear HO_5; clear HO248; clear HO251; clear BK226; clear BK253; clear HB; have HO_5 := n0_; have HO248 := n1_; have HO251 := n2_; have BK226 := n3_; have BK253 := n4_; have HB := n5_; clear n0_ n1_ n2_ n3_ n4_ n5_; (try clear hb); (try clear hb2); (try clear hk); (try clear hi)))
                      go_ret
                      exact ⟨by first | rfl | (simp [errW_none, errW_some] <;> rfl) | (simp only [← hji23]; first | rfl | (simp [errW_none, errW_some] <;> rfl)) | (simp [*, errW_none, errW_some] <;> rfl), by repeat (first | (with_reducible first | exact HB.out | apply below_alloc | apply pw_below_drewN | apply below_drew1 | refine below_set ?_ GE226.out | refine below_set ?_ GE253.out) | exact HB.out)⟩
                    · rw [if_neg c27] at H
                      have c27b0 : (t252 == 3) = false := beq_eq_false_iff_ne.mpr c27
                      have c27b1 : (t252 != 3) = true := bne_iff_ne.mpr c27
                      exact absurd (H.trans (congrArg some HRT.out)) (by simp)
                  · rw [if_neg c25] at H
                    exact absurd H (by simp)
                · rw [if_neg c24] at H
                  exact absurd H (by simp)

/-- THE ONE PURE STATEMENT of castellanlaw4_IpCut: yours. -/
def castellanlaw4_IpCut.Pure : Prop := ∀ (a0_0 : Int) (a0_1 : Int) (a0_2 : Bool) (a0_3 : Bool) (a0_4 : Int) (a0_5 : Int) (a0_6 : Int) (a0_7 : Int) (a0_8 : Int) (l0_9 : List Int) (l0_10 : List Int) (a1 : Int), (Lit.int .i64 a0_0).wf = true → (Lit.int .i64 a0_1).wf = true → (Lit.int .i64 a0_4).wf = true → (Lit.int .i64 a0_5).wf = true → (Lit.int .i64 a0_6).wf = true → (Lit.int .u32 a0_7).wf = true → (Lit.int .u32 a0_8).wf = true → l0_9.length ≤ maxLen → l0_9.length * 1 ≤ 140737488351232 → (∀ x ∈ l0_9, (Lit.int .u8 x).wf = true) → l0_10.length ≤ maxLen → l0_10.length * 1 ≤ 140737488351232 → (∀ x ∈ l0_10, (Lit.int .u8 x).wf = true) → (Lit.int .i64 a1).wf = true → ∃ k, castellanlaw4_IpCut.f k a0_0 a0_1 a0_2 a0_3 a0_4 a0_5 a0_6 a0_7 a0_8 l0_9 l0_10 a1 = some true
theorem castellanlaw4_IpCut.walk (P : castellanlaw4_IpCut.Pure) (a0_0 : Int) (a0_1 : Int) (a0_2 : Bool) (a0_3 : Bool) (a0_4 : Int) (a0_5 : Int) (a0_6 : Int) (a0_7 : Int) (a0_8 : Int) (a0_9 : Option Addr) (len0_9 cap0_9 : Nat) (z0_9 : List Int) (a0_10 : Option Addr) (len0_10 cap0_10 : Nat) (z0_10 : List Int) (a1 : Int) (w : World) (w0_0 : (Lit.int .i64 a0_0).wf = true) (w0_1 : (Lit.int .i64 a0_1).wf = true) (w0_4 : (Lit.int .i64 a0_4).wf = true) (w0_5 : (Lit.int .i64 a0_5).wf = true) (w0_6 : (Lit.int .i64 a0_6).wf = true) (w0_7 : (Lit.int .u32 a0_7).wf = true) (w0_8 : (Lit.int .u32 a0_8).wf = true) (w0_9 : (a0_9 = none ∧ len0_9 = 0 ∧ cap0_9 = 0 ∧ z0_9 = []) ∨ ∃ x, a0_9 = some x ∧ len0_9 ≤ cap0_9 ∧ cap0_9 ≤ maxLen ∧ z0_9.length = cap0_9 ∧ (∀ i, i < z0_9.length → w.cell? (x.add i) = some (.int .u8 (z0_9.getD i 0))) ∧ ∀ n ∈ z0_9, (Lit.int .u8 n).wf = true) (y0_9 : len0_9 * 1 ≤ 140737488351232) (w0_10 : (a0_10 = none ∧ len0_10 = 0 ∧ cap0_10 = 0 ∧ z0_10 = []) ∨ ∃ x, a0_10 = some x ∧ len0_10 ≤ cap0_10 ∧ cap0_10 ≤ maxLen ∧ z0_10.length = cap0_10 ∧ (∀ i, i < z0_10.length → w.cell? (x.add i) = some (.int .u8 (z0_10.getD i 0))) ∧ ∀ n ∈ z0_10, (Lit.int .u8 n).wf = true) (y0_10 : len0_10 * 1 ≤ 140737488351232) (w1 : (Lit.int .i64 a1).wf = true) :
    Calls Try.prog 10 #[.agg #[.int .i64 a0_0, .int .i64 a0_1, .bool a0_2, .bool a0_3, .int .i64 a0_4, .int .i64 a0_5, .int .i64 a0_6, .int .u32 a0_7, .int .u32 a0_8, .slice a0_9 len0_9 cap0_9, .slice a0_10 len0_10 cap0_10], .int .i64 a1] w fun e w' => e = .returned (.bool true) ∧ Below w.heap.size w w' := by
  obtain ⟨l0_9, rfl, hr0_9, hm0_9, hw0_9, hc0_9⟩ := ReadsInt.ofRowC w0_9
  obtain ⟨l0_10, rfl, hr0_10, hm0_10, hw0_10, hc0_10⟩ := ReadsInt.ofRowC w0_10
  obtain ⟨k, h⟩ := P a0_0 a0_1 a0_2 a0_3 a0_4 a0_5 a0_6 a0_7 a0_8 l0_9 l0_10 a1 w0_0 w0_1 w0_4 w0_5 w0_6 w0_7 w0_8 hm0_9 y0_9 hw0_9 hm0_10 y0_10 hw0_10 w1
  refine (castellanlaw4_IpCut.calls k a0_0 a0_1 a0_2 a0_3 a0_4 a0_5 a0_6 a0_7 a0_8 _ _ l0_9 _ _ l0_10 a1 true w (Kd.C_of_reads (d := (0 : Int)) (h1 := fun _ => rfl) hr0_9) hc0_9 (Kd.C_of_reads (d := (0 : Int)) (h1 := fun _ => rfl) hr0_10) hc0_10 rfl h).mono ?_
  rintro e w' ⟨rfl, hd⟩
  exact ⟨rfl, hd⟩

end Go.Proofs.Ytbpnienknijogaa.QIpCut
