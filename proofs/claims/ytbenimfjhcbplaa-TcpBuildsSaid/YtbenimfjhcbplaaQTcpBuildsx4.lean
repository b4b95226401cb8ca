-- written by myprint.py, a program of this session's over the kit's printer
import Derived.Test.YtbenimfjhcbplaaQTcpBuildsx0
namespace Go.Proofs.Ytbenimfjhcbplaa.QTcpBuilds
open Go.RowKit Go.Proofs.YtbenimfjhcbplaaW.PrintWords Go.Proofs.YtbenimfjhcbplaaW.PrintLast Go.Proofs.YtbenimfjhcbplaaW.PrintMore
attribute [local go_sem] max2_int min2_int max_two min_two max_three min_three max_four min_four   -- for this text's walks alone
set_option linter.unusedVariables false
set_option linter.unusedSimpArgs false

/-! ### castellanref5_half: function 59 -/
def castellanref5_half.f (a0 : Int) : Option (Bool) := if a0 ≥ 0 then (some (decide (a0 ≤ 65535))) else (some false)
set_option maxHeartbeats 8000000 in
set_option maxRecDepth 100000 in
theorem castellanref5_half.calls (a0 : Int) (r : Bool) (w : World) (h : castellanref5_half.f a0 = some r) :
    Calls Try.prog 59 #[.int .i64 a0] w fun e w' => e = .returned (.bool r) ∧ Drawn0 w w' := by
  have H : (if a0 ≥ 0 then (some (decide (a0 ≤ 65535))) else (some false)) = some r := h
  clear h
  by_cases c2 : a0 ≥ 0
  · rw [if_pos c2] at H
    have c2b0 : decide (0 ≤ a0) = true := decide_eq_true c2
    clear c2
    obtain rfl := Option.some.inj H
    go_enter Try.func59, Try.ntmps59
    go_wp2
    go_ret
    exact ⟨by first | rfl | (simp; done) | (simp [*]; done), by repeat (first | exact Drawn0.refl _ | apply Drawn0.step)⟩
  · rw [if_neg c2] at H
    have c2b0 : decide (0 ≤ a0) = false := decide_eq_false c2
    clear c2
    obtain rfl := Option.some.inj H
    go_enter Try.func59, Try.ntmps59
    go_wp2
    go_ret
    exact ⟨by first | rfl | (simp; done) | (simp [*]; done), by repeat (first | exact Drawn0.refl _ | apply Drawn0.step)⟩

/-! ### castellanref5_Is: function 38 -/
def castellanref5_Is.f (a0_0 : Int) (a0_1 : Int) (a0_2 : Int) (a0_3 : Int) (a0_4 : Int) (a0_5 : Int) (a0_6 : Int) (l0_7 : List Int) (l0_8 : List Int) : Option (Bool) := (castellanref5_half.f a0_0).bind fun t211 => (if t211 = true then ((castellanref5_half.f a0_1).bind fun t212 => (if t212 = true then ((castellanref5_half.f a0_5).bind fun t213 => (if t213 = true then ((castellanref5_half.f a0_6).bind fun t214 => (if t214 = true then (if a0_4 ≥ 0 then (if a0_4 ≤ 63 then (if ((l0_7.length : Int) % 4) = 0 then (if (l0_7.length : Int) ≤ 40 then (some (decide ((wrap64 ((wrap64 (20 + (l0_7.length : Int))) + (l0_8.length : Int))) ≤ 65000))) else (some false)) else (some false)) else (some false)) else (some false)) else (some false))) else (some false))) else (some false))) else (some false))
set_option maxHeartbeats 8000000 in
set_option maxRecDepth 100000 in
theorem castellanref5_Is.calls (a0_0 : Int) (a0_1 : Int) (a0_2 : Int) (a0_3 : Int) (a0_4 : Int) (a0_5 : Int) (a0_6 : Int) (A0_7 : Option Addr) (c0_7 : Nat) (l0_7 : List Int) (A0_8 : Option Addr) (c0_8 : Nat) (l0_8 : List Int) (r : Bool) (w : World) (hr0_7 : Kd.C (Kd.int .u8) w A0_7 l0_7.length l0_7) (hc0_7 : l0_7.length ≤ c0_7) (hr0_8 : Kd.C (Kd.int .u8) w A0_8 l0_8.length l0_8) (hc0_8 : l0_8.length ≤ c0_8) (h : castellanref5_Is.f a0_0 a0_1 a0_2 a0_3 a0_4 a0_5 a0_6 l0_7 l0_8 = some r) :
    Calls Try.prog 38 #[.agg #[.int .i64 a0_0, .int .i64 a0_1, .int .u32 a0_2, .int .u32 a0_3, .int .i64 a0_4, .int .i64 a0_5, .int .i64 a0_6, .slice A0_7 l0_7.length c0_7, .slice A0_8 l0_8.length c0_8]] w fun e w' => e = .returned (.bool r) ∧ Below w.heap.size w w' := by
  have hu27 := Try.underlying27
  have HR0_7 := Aside0.mk hr0_7
  have HC0_7 := Aside0.mk hc0_7
  clear hr0_7 hc0_7
  have HR0_8 := Aside0.mk hr0_8
  have HC0_8 := Aside0.mk hc0_8
  clear hr0_8 hc0_8
  have HB := Aside0.mk (Below.refl w.heap.size w)
  have H : ((castellanref5_half.f a0_0).bind fun t211 => (if t211 = true then ((castellanref5_half.f a0_1).bind fun t212 => (if t212 = true then ((castellanref5_half.f a0_5).bind fun t213 => (if t213 = true then ((castellanref5_half.f a0_6).bind fun t214 => (if t214 = true then (if a0_4 ≥ 0 then (if a0_4 ≤ 63 then (if ((l0_7.length : Int) % 4) = 0 then (if (l0_7.length : Int) ≤ 40 then (some (decide ((wrap64 ((wrap64 (20 + (l0_7.length : Int))) + (l0_8.length : Int))) ≤ 65000))) else (some false)) else (some false)) else (some false)) else (some false)) else (some false))) else (some false))) else (some false))) else (some false))) = some r := h
  clear h
  replace H := Option.bind_eq_some_iff.mp H
  obtain ⟨t211, A20, H⟩ := H
  replace H : (if t211 = true then ((castellanref5_half.f a0_1).bind fun t212 => (if t212 = true then ((castellanref5_half.f a0_5).bind fun t213 => (if t213 = true then ((castellanref5_half.f a0_6).bind fun t214 => (if t214 = true then (if a0_4 ≥ 0 then (if a0_4 ≤ 63 then (if ((l0_7.length : Int) % 4) = 0 then (if (l0_7.length : Int) ≤ 40 then (some (decide ((wrap64 ((wrap64 (20 + (l0_7.length : Int))) + (l0_8.length : Int))) ≤ 65000))) else (some false)) else (some false)) else (some false)) else (some false)) else (some false))) else (some false))) else (some false))) else (some false)) = some r := H
  have A2 := Aside0.mk A20
  clear A20
  by_cases c3 : t211 = true
  · subst c3
    have H1 : ((castellanref5_half.f a0_1).bind fun t212 => (if t212 = true then ((castellanref5_half.f a0_5).bind fun t213 => (if t213 = true then ((castellanref5_half.f a0_6).bind fun t214 => (if t214 = true then (if a0_4 ≥ 0 then (if a0_4 ≤ 63 then (if ((l0_7.length : Int) % 4) = 0 then (if (l0_7.length : Int) ≤ 40 then (some (decide ((wrap64 ((wrap64 (20 + (l0_7.length : Int))) + (l0_8.length : Int))) ≤ 65000))) else (some false)) else (some false)) else (some false)) else (some false)) else (some false))) else (some false))) else (some false))) = some r := by rw [if_pos rfl] at H; exact H
    clear H
    have H := H1
    clear H1
    replace H := Option.bind_eq_some_iff.mp H
    obtain ⟨t212, A40, H⟩ := H
    replace H : (if t212 = true then ((castellanref5_half.f a0_5).bind fun t213 => (if t213 = true then ((castellanref5_half.f a0_6).bind fun t214 => (if t214 = true then (if a0_4 ≥ 0 then (if a0_4 ≤ 63 then (if ((l0_7.length : Int) % 4) = 0 then (if (l0_7.length : Int) ≤ 40 then (some (decide ((wrap64 ((wrap64 (20 + (l0_7.length : Int))) + (l0_8.length : Int))) ≤ 65000))) else (some false)) else (some false)) else (some false)) else (some false)) else (some false))) else (some false))) else (some false)) = some r := H
    have A4 := Aside0.mk A40
    clear A40
    by_cases c5 : t212 = true
    · subst c5
      have H1 : ((castellanref5_half.f a0_5).bind fun t213 => (if t213 = true then ((castellanref5_half.f a0_6).bind fun t214 => (if t214 = true then (if a0_4 ≥ 0 then (if a0_4 ≤ 63 then (if ((l0_7.length : Int) % 4) = 0 then (if (l0_7.length : Int) ≤ 40 then (some (decide ((wrap64 ((wrap64 (20 + (l0_7.length : Int))) + (l0_8.length : Int))) ≤ 65000))) else (some false)) else (some false)) else (some false)) else (some false)) else (some false))) else (some false))) = some r := by rw [if_pos rfl] at H; exact H
      clear H
      have H := H1
      clear H1
      replace H := Option.bind_eq_some_iff.mp H
      obtain ⟨t213, A60, H⟩ := H
      replace H : (if t213 = true then ((castellanref5_half.f a0_6).bind fun t214 => (if t214 = true then (if a0_4 ≥ 0 then (if a0_4 ≤ 63 then (if ((l0_7.length : Int) % 4) = 0 then (if (l0_7.length : Int) ≤ 40 then (some (decide ((wrap64 ((wrap64 (20 + (l0_7.length : Int))) + (l0_8.length : Int))) ≤ 65000))) else (some false)) else (some false)) else (some false)) else (some false)) else (some false))) else (some false)) = some r := H
      have A6 := Aside0.mk A60
      clear A60
      by_cases c7 : t213 = true
      · subst c7
        have H1 : ((castellanref5_half.f a0_6).bind fun t214 => (if t214 = true then (if a0_4 ≥ 0 then (if a0_4 ≤ 63 then (if ((l0_7.length : Int) % 4) = 0 then (if (l0_7.length : Int) ≤ 40 then (some (decide ((wrap64 ((wrap64 (20 + (l0_7.length : Int))) + (l0_8.length : Int))) ≤ 65000))) else (some false)) else (some false)) else (some false)) else (some false)) else (some false))) = some r := by rw [if_pos rfl] at H; exact H
        clear H
        have H := H1
        clear H1
        replace H := Option.bind_eq_some_iff.mp H
        obtain ⟨t214, A80, H⟩ := H
        replace H : (if t214 = true then (if a0_4 ≥ 0 then (if a0_4 ≤ 63 then (if ((l0_7.length : Int) % 4) = 0 then (if (l0_7.length : Int) ≤ 40 then (some (decide ((wrap64 ((wrap64 (20 + (l0_7.length : Int))) + (l0_8.length : Int))) ≤ 65000))) else (some false)) else (some false)) else (some false)) else (some false)) else (some false)) = some r := H
        have A8 := Aside0.mk A80
        clear A80
        by_cases c9 : t214 = true
        · subst c9
          have H1 : (if a0_4 ≥ 0 then (if a0_4 ≤ 63 then (if ((l0_7.length : Int) % 4) = 0 then (if (l0_7.length : Int) ≤ 40 then (some (decide ((wrap64 ((wrap64 (20 + (l0_7.length : Int))) + (l0_8.length : Int))) ≤ 65000))) else (some false)) else (some false)) else (some false)) else (some false)) = some r := by rw [if_pos rfl] at H; exact H
          clear H
          have H := H1
          clear H1
          by_cases c10 : a0_4 ≥ 0
          · rw [if_pos c10] at H
            have c10b0 : decide (0 ≤ a0_4) = true := decide_eq_true c10
            clear c10
            by_cases c11 : a0_4 ≤ 63
            · rw [if_pos c11] at H
              have c11b0 : decide (a0_4 ≤ 63) = true := decide_eq_true c11
              clear c11
              by_cases c12 : ((l0_7.length : Int) % 4) = 0
              · rw [if_pos c12] at H
                have c12b0 : (((l0_7.length : Int) % 4) == 0) = true := beq_iff_eq.mpr c12
                have c12b1 : (((l0_7.length : Int) % 4) != 0) = false := bne_eq_false_iff_eq.mpr c12
                clear c12
                by_cases c13 : (l0_7.length : Int) ≤ 40
                · rw [if_pos c13] at H
                  have c13b0 : decide ((l0_7.length : Int) ≤ 40) = true := decide_eq_true c13
                  have c13b1 : decide (l0_7.length ≤ 40) = true := decide_eq_true (by omega)
                  clear c13
                  obtain rfl := Option.some.inj H
                  go_enter Try.func38, Try.ntmps38
                  go_wp2_with (first | ((with_reducible refine gate_dst (N := 1) rfl ?_); (try (refine gate_guard (by rfl) ?_; dsimp only)); refine box_event ?hg (N := 1) ?hd (cs := #[.int .i64 a0_0, .int .i64 a0_1, .int .u32 a0_2, .int .u32 a0_3, .int .i64 a0_4, .int .i64 a0_5, .int .i64 a0_6, .slice A0_7 l0_7.length c0_7, .slice A0_8 l0_8.length c0_8]) (t := 27) ?hr ?_; (case hd => rfl); (case hg => rfl); (case hr => first | (go_simp; done) | (go_simp; rfl)); intro gb210 hg w14 hbox hb; have n0_ := Aside0.mk (below_step (by repeat (first | (with_reducible first | exact HB.out | apply below_alloc | apply pw_below_drewN | apply below_drew1) | exact HB.out)) hb); have n1_ := Aside0.mk (hbox); have n2_ := Aside0.mk ((by rw [hg]; exact (below_size (by repeat (first | (with_reducible first | exact HB.out | apply below_alloc | apply pw_below_drewN | apply below_drew1) | exact HB.out))) : w.heap.size ≤ gb210)); have n3_ := Aside0.mk ((by rw [hg]; exact (below_size (by repeat (first | (with_reducible first | exact HB.out | apply below_alloc | apply pw_below_drewN | apply below_drew1) | exact HB.out))) : w.heap.size ≤ gb210)); clear HB; have HB := n0_; have BK210 := n1_; have GW210 := n2_; have GE210 := n3_; clear n0_ n1_ n2_ n3_; clear hb hbox hg; have hcz15_0 : w14.cell? ⟨gb210, 0, none⟩ = some (.int .i64 a0_0) := (blk_cell BK210.out 0).trans rfl; have hcz15_1 : w14.cell? ⟨gb210, 1, none⟩ = some (.int .i64 a0_1) := (blk_cell BK210.out 1).trans rfl; have hcz15_2 : w14.cell? ⟨gb210, 2, none⟩ = some (.int .u32 a0_2) := (blk_cell BK210.out 2).trans rfl; have hcz15_3 : w14.cell? ⟨gb210, 3, none⟩ = some (.int .u32 a0_3) := (blk_cell BK210.out 3).trans rfl; have hcz15_4 : w14.cell? ⟨gb210, 4, none⟩ = some (.int .i64 a0_4) := (blk_cell BK210.out 4).trans rfl; have hcz15_5 : w14.cell? ⟨gb210, 5, none⟩ = some (.int .i64 a0_5) := (blk_cell BK210.out 5).trans rfl; have hcz15_6 : w14.cell? ⟨gb210, 6, none⟩ = some (.int .i64 a0_6) := (blk_cell BK210.out 6).trans rfl; have hcz15_7 : w14.cell? ⟨gb210, 7, none⟩ = some (.slice A0_7 l0_7.length c0_7) := (blk_cell BK210.out 7).trans rfl; have hcz15_8 : w14.cell? ⟨gb210, 8, none⟩ = some (.slice A0_8 l0_8.length c0_8) := (blk_cell BK210.out 8).trans rfl; have hfz15_0 := blk_frozen BK210.out 0; have hfz15_1 := blk_frozen BK210.out 1; have hfz15_2 := blk_frozen BK210.out 2; have hfz15_3 := blk_frozen BK210.out 3; have hfz15_4 := blk_frozen BK210.out 4; have hfz15_5 := blk_frozen BK210.out 5; have hfz15_6 := blk_frozen BK210.out 6; have hfz15_7 := blk_frozen BK210.out 7; have hfz15_8 := blk_frozen BK210.out 8) | ((with_reducible refine gate_callee (f := 59) rfl ?_); refine goesL_ (some 5) rfl rfl Try.func59 (by kernel_rfl) rfl #[.int .i64 a0_0] rfl (by (try simp only [List.map_toArray, List.map_cons, List.map_nil]); first | done | rfl | (simp only [List.length_drop, List.length_take]; rfl)) ?_; (with_reducible refine (castellanref5_half.calls a0_0 true _ A2.out).mono ?_); rintro e w' ⟨rfl, ⟨nd, rfl⟩⟩; refine ⟨_, rfl, ?_⟩) | (go_at_call 59; (with_reducible refine (castellanref5_half.calls a0_1 true _ A4.out).mono ?_); rintro e w' ⟨rfl, ⟨nd, rfl⟩⟩) | (go_at_call 59; (with_reducible refine (castellanref5_half.calls a0_5 true _ A6.out).mono ?_); rintro e w' ⟨rfl, ⟨nd, rfl⟩⟩) | (go_at_call 59; (with_reducible refine (castellanref5_half.calls a0_6 true _ A8.out).mono ?_); rintro e w' ⟨rfl, ⟨nd, rfl⟩⟩))
                  go_ret
                  exact ⟨by first | rfl | (simp [errW_none, errW_some] <;> rfl) | (simp [*, errW_none, errW_some] <;> rfl), by repeat (first | (with_reducible first | exact HB.out | apply below_alloc | apply pw_below_drewN | apply below_drew1 | refine below_set ?_ GE210.out) | exact HB.out)⟩
                · rw [if_neg c13] at H
                  have c13b0 : decide ((l0_7.length : Int) ≤ 40) = false := decide_eq_false c13
                  have c13b1 : decide (l0_7.length ≤ 40) = false := decide_eq_false (by omega)
                  clear c13
                  obtain rfl := Option.some.inj H
                  go_enter Try.func38, Try.ntmps38
                  go_wp2_with (first | ((with_reducible refine gate_dst (N := 1) rfl ?_); (try (refine gate_guard (by rfl) ?_; dsimp only)); refine box_event ?hg (N := 1) ?hd (cs := #[.int .i64 a0_0, .int .i64 a0_1, .int .u32 a0_2, .int .u32 a0_3, .int .i64 a0_4, .int .i64 a0_5, .int .i64 a0_6, .slice A0_7 l0_7.length c0_7, .slice A0_8 l0_8.length c0_8]) (t := 27) ?hr ?_; (case hd => rfl); (case hg => rfl); (case hr => first | (go_simp; done) | (go_simp; rfl)); intro gb210 hg w16 hbox hb; have n0_ := Aside0.mk (below_step (by repeat (first | (with_reducible first | exact HB.out | apply below_alloc | apply pw_below_drewN | apply below_drew1) | exact HB.out)) hb); have n1_ := Aside0.mk (hbox); have n2_ := Aside0.mk ((by rw [hg]; exact (below_size (by repeat (first | (with_reducible first | exact HB.out | apply below_alloc | apply pw_below_drewN | apply below_drew1) | exact HB.out))) : w.heap.size ≤ gb210)); have n3_ := Aside0.mk ((by rw [hg]; exact (below_size (by repeat (first | (with_reducible first | exact HB.out | apply below_alloc | apply pw_below_drewN | apply below_drew1) | exact HB.out))) : w.heap.size ≤ gb210)); clear HB; have HB := n0_; have BK210 := n1_; have GW210 := n2_; have GE210 := n3_; clear n0_ n1_ n2_ n3_; clear hb hbox hg; have hcz17_0 : w16.cell? ⟨gb210, 0, none⟩ = some (.int .i64 a0_0) := (blk_cell BK210.out 0).trans rfl; have hcz17_1 : w16.cell? ⟨gb210, 1, none⟩ = some (.int .i64 a0_1) := (blk_cell BK210.out 1).trans rfl; have hcz17_2 : w16.cell? ⟨gb210, 2, none⟩ = some (.int .u32 a0_2) := (blk_cell BK210.out 2).trans rfl; have hcz17_3 : w16.cell? ⟨gb210, 3, none⟩ = some (.int .u32 a0_3) := (blk_cell BK210.out 3).trans rfl; have hcz17_4 : w16.cell? ⟨gb210, 4, none⟩ = some (.int .i64 a0_4) := (blk_cell BK210.out 4).trans rfl; have hcz17_5 : w16.cell? ⟨gb210, 5, none⟩ = some (.int .i64 a0_5) := (blk_cell BK210.out 5).trans rfl; have hcz17_6 : w16.cell? ⟨gb210, 6, none⟩ = some (.int .i64 a0_6) := (blk_cell BK210.out 6).trans rfl; have hcz17_7 : w16.cell? ⟨gb210, 7, none⟩ = some (.slice A0_7 l0_7.length c0_7) := (blk_cell BK210.out 7).trans rfl; have hcz17_8 : w16.cell? ⟨gb210, 8, none⟩ = some (.slice A0_8 l0_8.length c0_8) := (blk_cell BK210.out 8).trans rfl; have hfz17_0 := blk_frozen BK210.out 0; have hfz17_1 := blk_frozen BK210.out 1; have hfz17_2 := blk_frozen BK210.out 2; have hfz17_3 := blk_frozen BK210.out 3; have hfz17_4 := blk_frozen BK210.out 4; have hfz17_5 := blk_frozen BK210.out 5; have hfz17_6 := blk_frozen BK210.out 6; have hfz17_7 := blk_frozen BK210.out 7; have hfz17_8 := blk_frozen BK210.out 8) | ((with_reducible refine gate_callee (f := 59) rfl ?_); refine goesL_ (some 5) rfl rfl Try.func59 (by kernel_rfl) rfl #[.int .i64 a0_0] rfl (by (try simp only [List.map_toArray, List.map_cons, List.map_nil]); first | done | rfl | (simp only [List.length_drop, List.length_take]; rfl)) ?_; (with_reducible refine (castellanref5_half.calls a0_0 true _ A2.out).mono ?_); rintro e w' ⟨rfl, ⟨nd, rfl⟩⟩; refine ⟨_, rfl, ?_⟩) | (go_at_call 59; (with_reducible refine (castellanref5_half.calls a0_1 true _ A4.out).mono ?_); rintro e w' ⟨rfl, ⟨nd, rfl⟩⟩) | (go_at_call 59; (with_reducible refine (castellanref5_half.calls a0_5 true _ A6.out).mono ?_); rintro e w' ⟨rfl, ⟨nd, rfl⟩⟩) | (go_at_call 59; (with_reducible refine (castellanref5_half.calls a0_6 true _ A8.out).mono ?_); rintro e w' ⟨rfl, ⟨nd, rfl⟩⟩))
                  go_ret
                  exact ⟨by first | rfl | (simp [errW_none, errW_some] <;> rfl) | (simp [*, errW_none, errW_some] <;> rfl), by repeat (first | (with_reducible first | exact HB.out | apply below_alloc | apply pw_below_drewN | apply below_drew1 | refine below_set ?_ GE210.out) | exact HB.out)⟩
              · rw [if_neg c12] at H
                have c12b0 : (((l0_7.length : Int) % 4) == 0) = false := beq_eq_false_iff_ne.mpr c12
                have c12b1 : (((l0_7.length : Int) % 4) != 0) = true := bne_iff_ne.mpr c12
                obtain rfl := Option.some.inj H
                go_enter Try.func38, Try.ntmps38
                go_wp2_with (first | ((with_reducible refine gate_dst (N := 1) rfl ?_); (try (refine gate_guard (by rfl) ?_; dsimp only)); refine box_event ?hg (N := 1) ?hd (cs := #[.int .i64 a0_0, .int .i64 a0_1, .int .u32 a0_2, .int .u32 a0_3, .int .i64 a0_4, .int .i64 a0_5, .int .i64 a0_6, .slice A0_7 l0_7.length c0_7, .slice A0_8 l0_8.length c0_8]) (t := 27) ?hr ?_; (case hd => rfl); (case hg => rfl); (case hr => first | (go_simp; done) | (go_simp; rfl)); intro gb210 hg w18 hbox hb; have n0_ := Aside0.mk (below_step (by repeat (first | (with_reducible first | exact HB.out | apply below_alloc | apply pw_below_drewN | apply below_drew1) | exact HB.out)) hb); have n1_ := Aside0.mk (hbox); have n2_ := Aside0.mk ((by rw [hg]; exact (below_size (by repeat (first | (with_reducible first | exact HB.out | apply below_alloc | apply pw_below_drewN | apply below_drew1) | exact HB.out))) : w.heap.size ≤ gb210)); have n3_ := Aside0.mk ((by rw [hg]; exact (below_size (by repeat (first | (with_reducible first | exact HB.out | apply below_alloc | apply pw_below_drewN | apply below_drew1) | exact HB.out))) : w.heap.size ≤ gb210)); clear HB; have HB := n0_; have BK210 := n1_; have GW210 := n2_; have GE210 := n3_; clear n0_ n1_ n2_ n3_; clear hb hbox hg; have hcz19_0 : w18.cell? ⟨gb210, 0, none⟩ = some (.int .i64 a0_0) := (blk_cell BK210.out 0).trans rfl; have hcz19_1 : w18.cell? ⟨gb210, 1, none⟩ = some (.int .i64 a0_1) := (blk_cell BK210.out 1).trans rfl; have hcz19_2 : w18.cell? ⟨gb210, 2, none⟩ = some (.int .u32 a0_2) := (blk_cell BK210.out 2).trans rfl; have hcz19_3 : w18.cell? ⟨gb210, 3, none⟩ = some (.int .u32 a0_3) := (blk_cell BK210.out 3).trans rfl; have hcz19_4 : w18.cell? ⟨gb210, 4, none⟩ = some (.int .i64 a0_4) := (blk_cell BK210.out 4).trans rfl; have hcz19_5 : w18.cell? ⟨gb210, 5, none⟩ = some (.int .i64 a0_5) := (blk_cell BK210.out 5).trans rfl; have hcz19_6 : w18.cell? ⟨gb210, 6, none⟩ = some (.int .i64 a0_6) := (blk_cell BK210.out 6).trans rfl; have hcz19_7 : w18.cell? ⟨gb210, 7, none⟩ = some (.slice A0_7 l0_7.length c0_7) := (blk_cell BK210.out 7).trans rfl; have hcz19_8 : w18.cell? ⟨gb210, 8, none⟩ = some (.slice A0_8 l0_8.length c0_8) := (blk_cell BK210.out 8).trans rfl; have hfz19_0 := blk_frozen BK210.out 0; have hfz19_1 := blk_frozen BK210.out 1; have hfz19_2 := blk_frozen BK210.out 2; have hfz19_3 := blk_frozen BK210.out 3; have hfz19_4 := blk_frozen BK210.out 4; have hfz19_5 := blk_frozen BK210.out 5; have hfz19_6 := blk_frozen BK210.out 6; have hfz19_7 := blk_frozen BK210.out 7; have hfz19_8 := blk_frozen BK210.out 8) | ((with_reducible refine gate_callee (f := 59) rfl ?_); refine goesL_ (some 5) rfl rfl Try.func59 (by kernel_rfl) rfl #[.int .i64 a0_0] rfl (by (try simp only [List.map_toArray, List.map_cons, List.map_nil]); first | done | rfl | (simp only [List.length_drop, List.length_take]; rfl)) ?_; (with_reducible refine (castellanref5_half.calls a0_0 true _ A2.out).mono ?_); rintro e w' ⟨rfl, ⟨nd, rfl⟩⟩; refine ⟨_, rfl, ?_⟩) | (go_at_call 59; (with_reducible refine (castellanref5_half.calls a0_1 true _ A4.out).mono ?_); rintro e w' ⟨rfl, ⟨nd, rfl⟩⟩) | (go_at_call 59; (with_reducible refine (castellanref5_half.calls a0_5 true _ A6.out).mono ?_); rintro e w' ⟨rfl, ⟨nd, rfl⟩⟩) | (go_at_call 59; (with_reducible refine (castellanref5_half.calls a0_6 true _ A8.out).mono ?_); rintro e w' ⟨rfl, ⟨nd, rfl⟩⟩))
                go_ret
                exact ⟨by first | rfl | (simp [errW_none, errW_some] <;> rfl) | (simp [*, errW_none, errW_some] <;> rfl), by repeat (first | (with_reducible first | exact HB.out | apply below_alloc | apply pw_below_drewN | apply below_drew1 | refine below_set ?_ GE210.out) | exact HB.out)⟩
            · rw [if_neg c11] at H
              have c11b0 : decide (a0_4 ≤ 63) = false := decide_eq_false c11
              clear c11
              obtain rfl := Option.some.inj H
              go_enter Try.func38, Try.ntmps38
              go_wp2_with (first | ((with_reducible refine gate_dst (N := 1) rfl ?_); (try (refine gate_guard (by rfl) ?_; dsimp only)); refine box_event ?hg (N := 1) ?hd (cs := #[.int .i64 a0_0, .int .i64 a0_1, .int .u32 a0_2, .int .u32 a0_3, .int .i64 a0_4, .int .i64 a0_5, .int .i64 a0_6, .slice A0_7 l0_7.length c0_7, .slice A0_8 l0_8.length c0_8]) (t := 27) ?hr ?_; (case hd => rfl); (case hg => rfl); (case hr => first | (go_simp; done) | (go_simp; rfl)); intro gb210 hg w20 hbox hb; have n0_ := Aside0.mk (below_step (by repeat (first | (with_reducible first | exact HB.out | apply below_alloc | apply pw_below_drewN | apply below_drew1) | exact HB.out)) hb); have n1_ := Aside0.mk (hbox); have n2_ := Aside0.mk ((by rw [hg]; exact (below_size (by repeat (first | (with_reducible first | exact HB.out | apply below_alloc | apply pw_below_drewN | apply below_drew1) | exact HB.out))) : w.heap.size ≤ gb210)); have n3_ := Aside0.mk ((by rw [hg]; exact (below_size (by repeat (first | (with_reducible first | exact HB.out | apply below_alloc | apply pw_below_drewN | apply below_drew1) | exact HB.out))) : w.heap.size ≤ gb210)); clear HB; have HB := n0_; have BK210 := n1_; have GW210 := n2_; have GE210 := n3_; clear n0_ n1_ n2_ n3_; clear hb hbox hg; have hcz21_0 : w20.cell? ⟨gb210, 0, none⟩ = some (.int .i64 a0_0) := (blk_cell BK210.out 0).trans rfl; have hcz21_1 : w20.cell? ⟨gb210, 1, none⟩ = some (.int .i64 a0_1) := (blk_cell BK210.out 1).trans rfl; have hcz21_2 : w20.cell? ⟨gb210, 2, none⟩ = some (.int .u32 a0_2) := (blk_cell BK210.out 2).trans rfl; have hcz21_3 : w20.cell? ⟨gb210, 3, none⟩ = some (.int .u32 a0_3) := (blk_cell BK210.out 3).trans rfl; have hcz21_4 : w20.cell? ⟨gb210, 4, none⟩ = some (.int .i64 a0_4) := (blk_cell BK210.out 4).trans rfl; have hcz21_5 : w20.cell? ⟨gb210, 5, none⟩ = some (.int .i64 a0_5) := (blk_cell BK210.out 5).trans rfl; have hcz21_6 : w20.cell? ⟨gb210, 6, none⟩ = some (.int .i64 a0_6) := (blk_cell BK210.out 6).trans rfl; have hcz21_7 : w20.cell? ⟨gb210, 7, none⟩ = some (.slice A0_7 l0_7.length c0_7) := (blk_cell BK210.out 7).trans rfl; have hcz21_8 : w20.cell? ⟨gb210, 8, none⟩ = some (.slice A0_8 l0_8.length c0_8) := (blk_cell BK210.out 8).trans rfl; have hfz21_0 := blk_frozen BK210.out 0; have hfz21_1 := blk_frozen BK210.out 1; have hfz21_2 := blk_frozen BK210.out 2; have hfz21_3 := blk_frozen BK210.out 3; have hfz21_4 := blk_frozen BK210.out 4; have hfz21_5 := blk_frozen BK210.out 5; have hfz21_6 := blk_frozen BK210.out 6; have hfz21_7 := blk_frozen BK210.out 7; have hfz21_8 := blk_frozen BK210.out 8) | ((with_reducible refine gate_callee (f := 59) rfl ?_); refine goesL_ (some 5) rfl rfl Try.func59 (by kernel_rfl) rfl #[.int .i64 a0_0] rfl (by (try simp only [List.map_toArray, List.map_cons, List.map_nil]); first | done | rfl | (simp only [List.length_drop, List.length_take]; rfl)) ?_; (with_reducible refine (castellanref5_half.calls a0_0 true _ A2.out).mono ?_); rintro e w' ⟨rfl, ⟨nd, rfl⟩⟩; refine ⟨_, rfl, ?_⟩) | (go_at_call 59; (with_reducible refine (castellanref5_half.calls a0_1 true _ A4.out).mono ?_); rintro e w' ⟨rfl, ⟨nd, rfl⟩⟩) | (go_at_call 59; (with_reducible refine (castellanref5_half.calls a0_5 true _ A6.out).mono ?_); rintro e w' ⟨rfl, ⟨nd, rfl⟩⟩) | (go_at_call 59; (with_reducible refine (castellanref5_half.calls a0_6 true _ A8.out).mono ?_); rintro e w' ⟨rfl, ⟨nd, rfl⟩⟩))
              go_ret
              exact ⟨by first | rfl | (simp [errW_none, errW_some] <;> rfl) | (simp [*, errW_none, errW_some] <;> rfl), by repeat (first | (with_reducible first | exact HB.out | apply below_alloc | apply pw_below_drewN | apply below_drew1 | refine below_set ?_ GE210.out) | exact HB.out)⟩
          · rw [if_neg c10] at H
            have c10b0 : decide (0 ≤ a0_4) = false := decide_eq_false c10
            clear c10
            obtain rfl := Option.some.inj H
            go_enter Try.func38, Try.ntmps38
            go_wp2_with (first | ((with_reducible refine gate_dst (N := 1) rfl ?_); (try (refine gate_guard (by rfl) ?_; dsimp only)); refine box_event ?hg (N := 1) ?hd (cs := #[.int .i64 a0_0, .int .i64 a0_1, .int .u32 a0_2, .int .u32 a0_3, .int .i64 a0_4, .int .i64 a0_5, .int .i64 a0_6, .slice A0_7 l0_7.length c0_7, .slice A0_8 l0_8.length c0_8]) (t := 27) ?hr ?_; (case hd => rfl); (case hg => rfl); (case hr => first | (go_simp; done) | (go_simp; rfl)); intro gb210 hg w22 hbox hb; have n0_ := Aside0.mk (below_step (by repeat (first | (with_reducible first | exact HB.out | apply below_alloc | apply pw_below_drewN | apply below_drew1) | exact HB.out)) hb); have n1_ := Aside0.mk (hbox); have n2_ := Aside0.mk ((by rw [hg]; exact (below_size (by repeat (first | (with_reducible first | exact HB.out | apply below_alloc | apply pw_below_drewN | apply below_drew1) | exact HB.out))) : w.heap.size ≤ gb210)); have n3_ := Aside0.mk ((by rw [hg]; exact (below_size (by repeat (first | (with_reducible first | exact HB.out | apply below_alloc | apply pw_below_drewN | apply below_drew1) | exact HB.out))) : w.heap.size ≤ gb210)); clear HB; have HB := n0_; have BK210 := n1_; have GW210 := n2_; have GE210 := n3_; clear n0_ n1_ n2_ n3_; clear hb hbox hg; have hcz23_0 : w22.cell? ⟨gb210, 0, none⟩ = some (.int .i64 a0_0) := (blk_cell BK210.out 0).trans rfl; have hcz23_1 : w22.cell? ⟨gb210, 1, none⟩ = some (.int .i64 a0_1) := (blk_cell BK210.out 1).trans rfl; have hcz23_2 : w22.cell? ⟨gb210, 2, none⟩ = some (.int .u32 a0_2) := (blk_cell BK210.out 2).trans rfl; have hcz23_3 : w22.cell? ⟨gb210, 3, none⟩ = some (.int .u32 a0_3) := (blk_cell BK210.out 3).trans rfl; have hcz23_4 : w22.cell? ⟨gb210, 4, none⟩ = some (.int .i64 a0_4) := (blk_cell BK210.out 4).trans rfl; have hcz23_5 : w22.cell? ⟨gb210, 5, none⟩ = some (.int .i64 a0_5) := (blk_cell BK210.out 5).trans rfl; have hcz23_6 : w22.cell? ⟨gb210, 6, none⟩ = some (.int .i64 a0_6) := (blk_cell BK210.out 6).trans rfl; have hcz23_7 : w22.cell? ⟨gb210, 7, none⟩ = some (.slice A0_7 l0_7.length c0_7) := (blk_cell BK210.out 7).trans rfl; have hcz23_8 : w22.cell? ⟨gb210, 8, none⟩ = some (.slice A0_8 l0_8.length c0_8) := (blk_cell BK210.out 8).trans rfl; have hfz23_0 := blk_frozen BK210.out 0; have hfz23_1 := blk_frozen BK210.out 1; have hfz23_2 := blk_frozen BK210.out 2; have hfz23_3 := blk_frozen BK210.out 3; have hfz23_4 := blk_frozen BK210.out 4; have hfz23_5 := blk_frozen BK210.out 5; have hfz23_6 := blk_frozen BK210.out 6; have hfz23_7 := blk_frozen BK210.out 7; have hfz23_8 := blk_frozen BK210.out 8) | ((with_reducible refine gate_callee (f := 59) rfl ?_); refine goesL_ (some 5) rfl rfl Try.func59 (by kernel_rfl) rfl #[.int .i64 a0_0] rfl (by (try simp only [List.map_toArray, List.map_cons, List.map_nil]); first | done | rfl | (simp only [List.length_drop, List.length_take]; rfl)) ?_; (with_reducible refine (castellanref5_half.calls a0_0 true _ A2.out).mono ?_); rintro e w' ⟨rfl, ⟨nd, rfl⟩⟩; refine ⟨_, rfl, ?_⟩) | (go_at_call 59; (with_reducible refine (castellanref5_half.calls a0_1 true _ A4.out).mono ?_); rintro e w' ⟨rfl, ⟨nd, rfl⟩⟩) | (go_at_call 59; (with_reducible refine (castellanref5_half.calls a0_5 true _ A6.out).mono ?_); rintro e w' ⟨rfl, ⟨nd, rfl⟩⟩) | (go_at_call 59; (with_reducible refine (castellanref5_half.calls a0_6 true _ A8.out).mono ?_); rintro e w' ⟨rfl, ⟨nd, rfl⟩⟩))
            go_ret
            exact ⟨by first | rfl | (simp [errW_none, errW_some] <;> rfl) | (simp [*, errW_none, errW_some] <;> rfl), by repeat (first | (with_reducible first | exact HB.out | apply below_alloc | apply pw_below_drewN | apply below_drew1 | refine below_set ?_ GE210.out) | exact HB.out)⟩
        · replace c9 := Bool.eq_false_iff.mpr c9
          subst c9
          have H1 : (some false) = some r := by rw [if_neg (show ¬ (false = true) by decide)] at H; exact H
          clear H
          have H := H1
          clear H1
          obtain rfl := Option.some.inj H
          go_enter Try.func38, Try.ntmps38
          go_wp2_with (first | ((with_reducible refine gate_dst (N := 1) rfl ?_); (try (refine gate_guard (by rfl) ?_; dsimp only)); refine box_event ?hg (N := 1) ?hd (cs := #[.int .i64 a0_0, .int .i64 a0_1, .int .u32 a0_2, .int .u32 a0_3, .int .i64 a0_4, .int .i64 a0_5, .int .i64 a0_6, .slice A0_7 l0_7.length c0_7, .slice A0_8 l0_8.length c0_8]) (t := 27) ?hr ?_; (case hd => rfl); (case hg => rfl); (case hr => first | (go_simp; done) | (go_simp; rfl)); intro gb210 hg w24 hbox hb; have n0_ := Aside0.mk (below_step (by repeat (first | (with_reducible first | exact HB.out | apply below_alloc | apply pw_below_drewN | apply below_drew1) | exact HB.out)) hb); have n1_ := Aside0.mk (hbox); have n2_ := Aside0.mk ((by rw [hg]; exact (below_size (by repeat (first | (with_reducible first | exact HB.out | apply below_alloc | apply pw_below_drewN | apply below_drew1) | exact HB.out))) : w.heap.size ≤ gb210)); have n3_ := Aside0.mk ((by rw [hg]; exact (below_size (by repeat (first | (with_reducible first | exact HB.out | apply below_alloc | apply pw_below_drewN | apply below_drew1) | exact HB.out))) : w.heap.size ≤ gb210)); clear HB; have HB := n0_; have BK210 := n1_; have GW210 := n2_; have GE210 := n3_; clear n0_ n1_ n2_ n3_; clear hb hbox hg; have hcz25_0 : w24.cell? ⟨gb210, 0, none⟩ = some (.int .i64 a0_0) := (blk_cell BK210.out 0).trans rfl; have hcz25_1 : w24.cell? ⟨gb210, 1, none⟩ = some (.int .i64 a0_1) := (blk_cell BK210.out 1).trans rfl; have hcz25_2 : w24.cell? ⟨gb210, 2, none⟩ = some (.int .u32 a0_2) := (blk_cell BK210.out 2).trans rfl; have hcz25_3 : w24.cell? ⟨gb210, 3, none⟩ = some (.int .u32 a0_3) := (blk_cell BK210.out 3).trans rfl; have hcz25_4 : w24.cell? ⟨gb210, 4, none⟩ = some (.int .i64 a0_4) := (blk_cell BK210.out 4).trans rfl; have hcz25_5 : w24.cell? ⟨gb210, 5, none⟩ = some (.int .i64 a0_5) := (blk_cell BK210.out 5).trans rfl; have hcz25_6 : w24.cell? ⟨gb210, 6, none⟩ = some (.int .i64 a0_6) := (blk_cell BK210.out 6).trans rfl; have hcz25_7 : w24.cell? ⟨gb210, 7, none⟩ = some (.slice A0_7 l0_7.length c0_7) := (blk_cell BK210.out 7).trans rfl; have hcz25_8 : w24.cell? ⟨gb210, 8, none⟩ = some (.slice A0_8 l0_8.length c0_8) := (blk_cell BK210.out 8).trans rfl; have hfz25_0 := blk_frozen BK210.out 0; have hfz25_1 := blk_frozen BK210.out 1; have hfz25_2 := blk_frozen BK210.out 2; have hfz25_3 := blk_frozen BK210.out 3; have hfz25_4 := blk_frozen BK210.out 4; have hfz25_5 := blk_frozen BK210.out 5; have hfz25_6 := blk_frozen BK210.out 6; have hfz25_7 := blk_frozen BK210.out 7; have hfz25_8 := blk_frozen BK210.out 8) | ((with_reducible refine gate_callee (f := 59) rfl ?_); refine goesL_ (some 5) rfl rfl Try.func59 (by kernel_rfl) rfl #[.int .i64 a0_0] rfl (by (try simp only [List.map_toArray, List.map_cons, List.map_nil]); first | done | rfl | (simp only [List.length_drop, List.length_take]; rfl)) ?_; (with_reducible refine (castellanref5_half.calls a0_0 true _ A2.out).mono ?_); rintro e w' ⟨rfl, ⟨nd, rfl⟩⟩; refine ⟨_, rfl, ?_⟩) | (go_at_call 59; (with_reducible refine (castellanref5_half.calls a0_1 true _ A4.out).mono ?_); rintro e w' ⟨rfl, ⟨nd, rfl⟩⟩) | (go_at_call 59; (with_reducible refine (castellanref5_half.calls a0_5 true _ A6.out).mono ?_); rintro e w' ⟨rfl, ⟨nd, rfl⟩⟩) | (go_at_call 59; (with_reducible refine (castellanref5_half.calls a0_6 false _ A8.out).mono ?_); rintro e w' ⟨rfl, ⟨nd, rfl⟩⟩))
          go_ret
          exact ⟨by first | rfl | (simp [errW_none, errW_some] <;> rfl) | (simp [*, errW_none, errW_some] <;> rfl), by repeat (first | (with_reducible first | exact HB.out | apply below_alloc | apply pw_below_drewN | apply below_drew1 | refine below_set ?_ GE210.out) | exact HB.out)⟩
      · replace c7 := Bool.eq_false_iff.mpr c7
        subst c7
        have H1 : (some false) = some r := by rw [if_neg (show ¬ (false = true) by decide)] at H; exact H
        clear H
        have H := H1
        clear H1
        obtain rfl := Option.some.inj H
        go_enter Try.func38, Try.ntmps38
        go_wp2_with (first | ((with_reducible refine gate_dst (N := 1) rfl ?_); (try (refine gate_guard (by rfl) ?_; dsimp only)); refine box_event ?hg (N := 1) ?hd (cs := #[.int .i64 a0_0, .int .i64 a0_1, .int .u32 a0_2, .int .u32 a0_3, .int .i64 a0_4, .int .i64 a0_5, .int .i64 a0_6, .slice A0_7 l0_7.length c0_7, .slice A0_8 l0_8.length c0_8]) (t := 27) ?hr ?_; (case hd => rfl); (case hg => rfl); (case hr => first | (go_simp; done) | (go_simp; rfl)); intro gb210 hg w26 hbox hb; have n0_ := Aside0.mk (below_step (by repeat (first | (with_reducible first | exact HB.out | apply below_alloc | apply pw_below_drewN | apply below_drew1) | exact HB.out)) hb); have n1_ := Aside0.mk (hbox); have n2_ := Aside0.mk ((by rw [hg]; exact (below_size (by repeat (first | (with_reducible first | exact HB.out | apply below_alloc | apply pw_below_drewN | apply below_drew1) | exact HB.out))) : w.heap.size ≤ gb210)); have n3_ := Aside0.mk ((by rw [hg]; exact (below_size (by repeat (first | (with_reducible first | exact HB.out | apply below_alloc | apply pw_below_drewN | apply below_drew1) | exact HB.out))) : w.heap.size ≤ gb210)); clear HB; have HB := n0_; have BK210 := n1_; have GW210 := n2_; have GE210 := n3_; clear n0_ n1_ n2_ n3_; clear hb hbox hg; have hcz27_0 : w26.cell? ⟨gb210, 0, none⟩ = some (.int .i64 a0_0) := (blk_cell BK210.out 0).trans rfl; have hcz27_1 : w26.cell? ⟨gb210, 1, none⟩ = some (.int .i64 a0_1) := (blk_cell BK210.out 1).trans rfl; have hcz27_2 : w26.cell? ⟨gb210, 2, none⟩ = some (.int .u32 a0_2) := (blk_cell BK210.out 2).trans rfl; have hcz27_3 : w26.cell? ⟨gb210, 3, none⟩ = some (.int .u32 a0_3) := (blk_cell BK210.out 3).trans rfl; have hcz27_4 : w26.cell? ⟨gb210, 4, none⟩ = some (.int .i64 a0_4) := (blk_cell BK210.out 4).trans rfl; have hcz27_5 : w26.cell? ⟨gb210, 5, none⟩ = some (.int .i64 a0_5) := (blk_cell BK210.out 5).trans rfl; have hcz27_6 : w26.cell? ⟨gb210, 6, none⟩ = some (.int .i64 a0_6) := (blk_cell BK210.out 6).trans rfl; have hcz27_7 : w26.cell? ⟨gb210, 7, none⟩ = some (.slice A0_7 l0_7.length c0_7) := (blk_cell BK210.out 7).trans rfl; have hcz27_8 : w26.cell? ⟨gb210, 8, none⟩ = some (.slice A0_8 l0_8.length c0_8) := (blk_cell BK210.out 8).trans rfl; have hfz27_0 := blk_frozen BK210.out 0; have hfz27_1 := blk_frozen BK210.out 1; have hfz27_2 := blk_frozen BK210.out 2; have hfz27_3 := blk_frozen BK210.out 3; have hfz27_4 := blk_frozen BK210.out 4; have hfz27_5 := blk_frozen BK210.out 5; have hfz27_6 := blk_frozen BK210.out 6; have hfz27_7 := blk_frozen BK210.out 7; have hfz27_8 := blk_frozen BK210.out 8) | ((with_reducible refine gate_callee (f := 59) rfl ?_); refine goesL_ (some 5) rfl rfl Try.func59 (by kernel_rfl) rfl #[.int .i64 a0_0] rfl (by (try simp only [List.map_toArray, List.map_cons, List.map_nil]); first | done | rfl | (simp only [List.length_drop, List.length_take]; rfl)) ?_; (with_reducible refine (castellanref5_half.calls a0_0 true _ A2.out).mono ?_); rintro e w' ⟨rfl, ⟨nd, rfl⟩⟩; refine ⟨_, rfl, ?_⟩) | (go_at_call 59; (with_reducible refine (castellanref5_half.calls a0_1 true _ A4.out).mono ?_); rintro e w' ⟨rfl, ⟨nd, rfl⟩⟩) | (go_at_call 59; (with_reducible refine (castellanref5_half.calls a0_5 false _ A6.out).mono ?_); rintro e w' ⟨rfl, ⟨nd, rfl⟩⟩))
        go_ret
        exact ⟨by first | rfl | (simp [errW_none, errW_some] <;> rfl) | (simp [*, errW_none, errW_some] <;> rfl), by repeat (first | (with_reducible first | exact HB.out | apply below_alloc | apply pw_below_drewN | apply below_drew1 | refine below_set ?_ GE210.out) | exact HB.out)⟩
    · replace c5 := Bool.eq_false_iff.mpr c5
      subst c5
      have H1 : (some false) = some r := by rw [if_neg (show ¬ (false = true) by decide)] at H; exact H
      clear H
      have H := H1
      clear H1
      obtain rfl := Option.some.inj H
      go_enter Try.func38, Try.ntmps38
      go_wp2_with (first | ((with_reducible refine gate_dst (N := 1) rfl ?_); (try (refine gate_guard (by rfl) ?_; dsimp only)); refine box_event ?hg (N := 1) ?hd (cs := #[.int .i64 a0_0, .int .i64 a0_1, .int .u32 a0_2, .int .u32 a0_3, .int .i64 a0_4, .int .i64 a0_5, .int .i64 a0_6, .slice A0_7 l0_7.length c0_7, .slice A0_8 l0_8.length c0_8]) (t := 27) ?hr ?_; (case hd => rfl); (case hg => rfl); (case hr => first | (go_simp; done) | (go_simp; rfl)); intro gb210 hg w28 hbox hb; have n0_ := Aside0.mk (below_step (by repeat (first | (with_reducible first | exact HB.out | apply below_alloc | apply pw_below_drewN | apply below_drew1) | exact HB.out)) hb); have n1_ := Aside0.mk (hbox); have n2_ := Aside0.mk ((by rw [hg]; exact (below_size (by repeat (first | (with_reducible first | exact HB.out | apply below_alloc | apply pw_below_drewN | apply below_drew1) | exact HB.out))) : w.heap.size ≤ gb210)); have n3_ := Aside0.mk ((by rw [hg]; exact (below_size (by repeat (first | (with_reducible first | exact HB.out | apply below_alloc | apply pw_below_drewN | apply below_drew1) | exact HB.out))) : w.heap.size ≤ gb210)); clear HB; have HB := n0_; have BK210 := n1_; have GW210 := n2_; have GE210 := n3_; clear n0_ n1_ n2_ n3_; clear hb hbox hg; have hcz29_0 : w28.cell? ⟨gb210, 0, none⟩ = some (.int .i64 a0_0) := (blk_cell BK210.out 0).trans rfl; have hcz29_1 : w28.cell? ⟨gb210, 1, none⟩ = some (.int .i64 a0_1) := (blk_cell BK210.out 1).trans rfl; have hcz29_2 : w28.cell? ⟨gb210, 2, none⟩ = some (.int .u32 a0_2) := (blk_cell BK210.out 2).trans rfl; have hcz29_3 : w28.cell? ⟨gb210, 3, none⟩ = some (.int .u32 a0_3) := (blk_cell BK210.out 3).trans rfl; have hcz29_4 : w28.cell? ⟨gb210, 4, none⟩ = some (.int .i64 a0_4) := (blk_cell BK210.out 4).trans rfl; have hcz29_5 : w28.cell? ⟨gb210, 5, none⟩ = some (.int .i64 a0_5) := (blk_cell BK210.out 5).trans rfl; have hcz29_6 : w28.cell? ⟨gb210, 6, none⟩ = some (.int .i64 a0_6) := (blk_cell BK210.out 6).trans rfl; have hcz29_7 : w28.cell? ⟨gb210, 7, none⟩ = some (.slice A0_7 l0_7.length c0_7) := (blk_cell BK210.out 7).trans rfl; have hcz29_8 : w28.cell? ⟨gb210, 8, none⟩ = some (.slice A0_8 l0_8.length c0_8) := (blk_cell BK210.out 8).trans rfl; have hfz29_0 := blk_frozen BK210.out 0; have hfz29_1 := blk_frozen BK210.out 1; have hfz29_2 := blk_frozen BK210.out 2; have hfz29_3 := blk_frozen BK210.out 3; have hfz29_4 := blk_frozen BK210.out 4; have hfz29_5 := blk_frozen BK210.out 5; have hfz29_6 := blk_frozen BK210.out 6; have hfz29_7 := blk_frozen BK210.out 7; have hfz29_8 := blk_frozen BK210.out 8) | ((with_reducible refine gate_callee (f := 59) rfl ?_); refine goesL_ (some 5) rfl rfl Try.func59 (by kernel_rfl) rfl #[.int .i64 a0_0] rfl (by (try simp only [List.map_toArray, List.map_cons, List.map_nil]); first | done | rfl | (simp only [List.length_drop, List.length_take]; rfl)) ?_; (with_reducible refine (castellanref5_half.calls a0_0 true _ A2.out).mono ?_); rintro e w' ⟨rfl, ⟨nd, rfl⟩⟩; refine ⟨_, rfl, ?_⟩) | (go_at_call 59; (with_reducible refine (castellanref5_half.calls a0_1 false _ A4.out).mono ?_); rintro e w' ⟨rfl, ⟨nd, rfl⟩⟩))
      go_ret
      exact ⟨by first | rfl | (simp [errW_none, errW_some] <;> rfl) | (simp [*, errW_none, errW_some] <;> rfl), by repeat (first | (with_reducible first | exact HB.out | apply below_alloc | apply pw_below_drewN | apply below_drew1 | refine below_set ?_ GE210.out) | exact HB.out)⟩
  · replace c3 := Bool.eq_false_iff.mpr c3
    subst c3
    have H1 : (some false) = some r := by rw [if_neg (show ¬ (false = true) by decide)] at H; exact H
    clear H
    have H := H1
    clear H1
    obtain rfl := Option.some.inj H
    go_enter Try.func38, Try.ntmps38
    go_wp2_with (first | ((with_reducible refine gate_dst (N := 1) rfl ?_); (try (refine gate_guard (by rfl) ?_; dsimp only)); refine box_event ?hg (N := 1) ?hd (cs := #[.int .i64 a0_0, .int .i64 a0_1, .int .u32 a0_2, .int .u32 a0_3, .int .i64 a0_4, .int .i64 a0_5, .int .i64 a0_6, .slice A0_7 l0_7.length c0_7, .slice A0_8 l0_8.length c0_8]) (t := 27) ?hr ?_; (case hd => rfl); (case hg => rfl); (case hr => first | (go_simp; done) | (go_simp; rfl)); intro gb210 hg w30 hbox hb; have n0_ := Aside0.mk (below_step (by repeat (first | (with_reducible first | exact HB.out | apply below_alloc | apply pw_below_drewN | apply below_drew1) | exact HB.out)) hb); have n1_ := Aside0.mk (hbox); have n2_ := Aside0.mk ((by rw [hg]; exact (below_size (by repeat (first | (with_reducible first | exact HB.out | apply below_alloc | apply pw_below_drewN | apply below_drew1) | exact HB.out))) : w.heap.size ≤ gb210)); have n3_ := Aside0.mk ((by rw [hg]; exact (below_size (by repeat (first | (with_reducible first | exact HB.out | apply below_alloc | apply pw_below_drewN | apply below_drew1) | exact HB.out))) : w.heap.size ≤ gb210)); clear HB; have HB := n0_; have BK210 := n1_; have GW210 := n2_; have GE210 := n3_; clear n0_ n1_ n2_ n3_; clear hb hbox hg; have hcz31_0 : w30.cell? ⟨gb210, 0, none⟩ = some (.int .i64 a0_0) := (blk_cell BK210.out 0).trans rfl; have hcz31_1 : w30.cell? ⟨gb210, 1, none⟩ = some (.int .i64 a0_1) := (blk_cell BK210.out 1).trans rfl; have hcz31_2 : w30.cell? ⟨gb210, 2, none⟩ = some (.int .u32 a0_2) := (blk_cell BK210.out 2).trans rfl; have hcz31_3 : w30.cell? ⟨gb210, 3, none⟩ = some (.int .u32 a0_3) := (blk_cell BK210.out 3).trans rfl; have hcz31_4 : w30.cell? ⟨gb210, 4, none⟩ = some (.int .i64 a0_4) := (blk_cell BK210.out 4).trans rfl; have hcz31_5 : w30.cell? ⟨gb210, 5, none⟩ = some (.int .i64 a0_5) := (blk_cell BK210.out 5).trans rfl; have hcz31_6 : w30.cell? ⟨gb210, 6, none⟩ = some (.int .i64 a0_6) := (blk_cell BK210.out 6).trans rfl; have hcz31_7 : w30.cell? ⟨gb210, 7, none⟩ = some (.slice A0_7 l0_7.length c0_7) := (blk_cell BK210.out 7).trans rfl; have hcz31_8 : w30.cell? ⟨gb210, 8, none⟩ = some (.slice A0_8 l0_8.length c0_8) := (blk_cell BK210.out 8).trans rfl; have hfz31_0 := blk_frozen BK210.out 0; have hfz31_1 := blk_frozen BK210.out 1; have hfz31_2 := blk_frozen BK210.out 2; have hfz31_3 := blk_frozen BK210.out 3; have hfz31_4 := blk_frozen BK210.out 4; have hfz31_5 := blk_frozen BK210.out 5; have hfz31_6 := blk_frozen BK210.out 6; have hfz31_7 := blk_frozen BK210.out 7; have hfz31_8 := blk_frozen BK210.out 8) | ((with_reducible refine gate_callee (f := 59) rfl ?_); refine goesL_ (some 5) rfl rfl Try.func59 (by kernel_rfl) rfl #[.int .i64 a0_0] rfl (by (try simp only [List.map_toArray, List.map_cons, List.map_nil]); first | done | rfl | (simp only [List.length_drop, List.length_take]; rfl)) ?_; (with_reducible refine (castellanref5_half.calls a0_0 false _ A2.out).mono ?_); rintro e w' ⟨rfl, ⟨nd, rfl⟩⟩; refine ⟨_, rfl, ?_⟩))
    go_ret
    exact ⟨by first | rfl | (simp [errW_none, errW_some] <;> rfl) | (simp [*, errW_none, errW_some] <;> rfl), by repeat (first | (with_reducible first | exact HB.out | apply below_alloc | apply pw_below_drewN | apply below_drew1 | refine below_set ?_ GE210.out) | exact HB.out)⟩

/-! ### castellanref1_Put16: function 53 -/
def castellanref1_Put16.f (a0 : Int) : Option (List Int) := some (([(a0 / 256) % 256, (a0) % 256] : List Int))
set_option maxHeartbeats 8000000 in
set_option maxRecDepth 100000 in
theorem castellanref1_Put16.calls (a0 : Int) (r : List Int) (w : World) (h : castellanref1_Put16.f a0 = some r) :
    Calls Try.prog 53 #[.int .i64 a0] w fun e w' => ∃ v0_ : Value, e = .returned (v0_) ∧ Kd.R (Kd.int .u8) 5 w' w.heap.size (fun _ => True) v0_ r ∧ Below w.heap.size w w' := by
  have HB := Aside0.mk (Below.refl w.heap.size w)
  have H : (some (([(a0 / 256) % 256, (a0) % 256] : List Int))) = some r := h
  clear h
  obtain ⟨y215, hy215⟩ : ∃ y_ : List Int, y_ = (([(a0 / 256) % 256, (a0) % 256] : List Int)) := ⟨_, rfl⟩
  replace H : (some y215) = some r := by first | (rw [hy215]; with_reducible exact H) | (have H2_ := (Option.bind_some _ _).symm.trans H; rw [hy215]; with_reducible exact H2_) | (have H2_ := (Option.bind_some _ _).symm.trans H; with_reducible exact H2_) | with_reducible exact H | (rw [hy215]; exact H) | exact H
  have Ny215 := Aside0.mk hy215
  clear hy215
  obtain rfl := Option.some.inj H
  go_enter Try.func53, Try.ntmps53
  go_wp2_with (first | ((with_reducible refine gate_dst (N := 8) rfl ?_); refine Kd.R_lit (Kd.int .u8) _ 5 ?hg (N := 8) ?hd (xs := ([(a0 / 256) % 256, (a0) % 256] : List Int)) (inner := [.int .u8 ((a0 / 256) % 256), .int .u8 ((a0) % 256)]) (ok := fun _ => True) (okp := fun _ => True) ?hr ?hp (fun _ hk => hk) trivial (Below.refl _ _) (Nat.le_refl _) (by simp) ?_; (case hd => rfl); (case hg => rfl); (case hr => first | (go_simp; done) | (go_simp; rfl)); (case hp => exact (Reps.one (show Kd.M (Kd.int .u8) _ _ _ ((a0 / 256) % 256) [.int .u8 ((a0 / 256) % 256)] from rfl) (Reps.one (show Kd.M (Kd.int .u8) _ _ _ ((a0) % 256) [.int .u8 ((a0) % 256)] from rfl) (Reps.none _ _)))); intro v216 w2 ho3 hb hg_ hnew_; clear hg_ hnew_; (first | rw [← Ny215.out] at ho3 | (simp only [Int.reduceToNat] at ho3; rw [← Ny215.out] at ho3)); have n0_ := Aside0.mk (Kd.R_lower ho3 (below_size (by repeat (first | (with_reducible first | exact HB.out | apply below_alloc | apply pw_below_drewN | apply below_drew1) | exact HB.out)))); have n1_ := Aside0.mk (below_step (by repeat (first | (with_reducible first | exact HB.out | apply below_alloc | apply pw_below_drewN | apply below_drew1) | exact HB.out)) hb); clear HB; have HO217 := n0_; have HB := n1_; clear n0_ n1_; clear hb ho3))
  go_ret
  exact ⟨_, by first | rfl | (simp [errW_none, errW_some] <;> rfl) | (simp [*, errW_none, errW_some] <;> rfl), by (with_reducible repeat (first | apply Kd.R_alloc | apply Kd.R_drewN | apply Kd.R_drew)); exact HO217.out, by repeat (first | (with_reducible first | exact HB.out | apply below_alloc | apply pw_below_drewN | apply below_drew1) | exact HB.out)⟩

/-! ### castellanref1_Put32: function 54 -/
def castellanref1_Put32.f (a0 : Int) : Option (List Int) := some (([(a0 / 16777216) % 256, (a0 / 65536) % 256, (a0 / 256) % 256, (a0) % 256] : List Int))
set_option maxHeartbeats 8000000 in
set_option maxRecDepth 100000 in
theorem castellanref1_Put32.calls (a0 : Int) (r : List Int) (w : World) (h : castellanref1_Put32.f a0 = some r) :
    Calls Try.prog 54 #[.int .u32 a0] w fun e w' => ∃ v0_ : Value, e = .returned (v0_) ∧ Kd.R (Kd.int .u8) 5 w' w.heap.size (fun _ => True) v0_ r ∧ Below w.heap.size w w' := by
  have HB := Aside0.mk (Below.refl w.heap.size w)
  have H : (some (([(a0 / 16777216) % 256, (a0 / 65536) % 256, (a0 / 256) % 256, (a0) % 256] : List Int))) = some r := h
  clear h
  obtain ⟨y218, hy218⟩ : ∃ y_ : List Int, y_ = (([(a0 / 16777216) % 256, (a0 / 65536) % 256, (a0 / 256) % 256, (a0) % 256] : List Int)) := ⟨_, rfl⟩
  replace H : (some y218) = some r := by first | (rw [hy218]; with_reducible exact H) | (have H2_ := (Option.bind_some _ _).symm.trans H; rw [hy218]; with_reducible exact H2_) | (have H2_ := (Option.bind_some _ _).symm.trans H; with_reducible exact H2_) | with_reducible exact H | (rw [hy218]; exact H) | exact H
  have Ny218 := Aside0.mk hy218
  clear hy218
  obtain rfl := Option.some.inj H
  go_enter Try.func54, Try.ntmps54
  go_wp2_with (first | ((with_reducible refine gate_dst (N := 14) rfl ?_); refine Kd.R_lit (Kd.int .u8) _ 5 ?hg (N := 14) ?hd (xs := ([(a0 / 16777216) % 256, (a0 / 65536) % 256, (a0 / 256) % 256, (a0) % 256] : List Int)) (inner := [.int .u8 ((a0 / 16777216) % 256), .int .u8 ((a0 / 65536) % 256), .int .u8 ((a0 / 256) % 256), .int .u8 ((a0) % 256)]) (ok := fun _ => True) (okp := fun _ => True) ?hr ?hp (fun _ hk => hk) trivial (Below.refl _ _) (Nat.le_refl _) (by simp) ?_; (case hd => rfl); (case hg => rfl); (case hr => first | (go_simp; done) | (go_simp; rfl)); (case hp => exact (Reps.one (show Kd.M (Kd.int .u8) _ _ _ ((a0 / 16777216) % 256) [.int .u8 ((a0 / 16777216) % 256)] from rfl) (Reps.one (show Kd.M (Kd.int .u8) _ _ _ ((a0 / 65536) % 256) [.int .u8 ((a0 / 65536) % 256)] from rfl) (Reps.one (show Kd.M (Kd.int .u8) _ _ _ ((a0 / 256) % 256) [.int .u8 ((a0 / 256) % 256)] from rfl) (Reps.one (show Kd.M (Kd.int .u8) _ _ _ ((a0) % 256) [.int .u8 ((a0) % 256)] from rfl) (Reps.none _ _)))))); intro v219 w2 ho3 hb hg_ hnew_; clear hg_ hnew_; (first | rw [← Ny218.out] at ho3 | (simp only [Int.reduceToNat] at ho3; rw [← Ny218.out] at ho3)); have n0_ := Aside0.mk (Kd.R_lower ho3 (below_size (by repeat (first | (with_reducible first | exact HB.out | apply below_alloc | apply pw_below_drewN | apply below_drew1) | exact HB.out)))); have n1_ := Aside0.mk (below_step (by repeat (first | (with_reducible first | exact HB.out | apply below_alloc | apply pw_below_drewN | apply below_drew1) | exact HB.out)) hb); clear HB; have HO220 := n0_; have HB := n1_; clear n0_ n1_; clear hb ho3))
  go_ret
  exact ⟨_, by first | rfl | (simp [errW_none, errW_some] <;> rfl) | (simp [*, errW_none, errW_some] <;> rfl), by (with_reducible repeat (first | apply Kd.R_alloc | apply Kd.R_drewN | apply Kd.R_drew)); exact HO220.out, by repeat (first | (with_reducible first | exact HB.out | apply below_alloc | apply pw_below_drewN | apply below_drew1) | exact HB.out)⟩

/-! ### castellanref2_Pseudo: function 39 -/
def castellanref2_Pseudo.f (a0 : Int) (a1 : Int) (a2 : Int) (a3 : Int) : Option (List Int) := (castellanref1_Put32.f a0).bind fun t221 => ((castellanref1_Put32.f a1).bind fun t224 => (if t221.length + t224.length < 140737488355328 then ((some (t221 ++ t224 : List Int)).bind fun y227 => ((some (([0, (a2) % 256] : List Int) : List Int)).bind fun y230 => (if y227.length + y230.length < 140737488355328 then ((some (y227 ++ y230 : List Int)).bind fun y233 => ((castellanref1_Put16.f a3).bind fun t236 => (if y233.length + t236.length < 140737488355328 then (some (y233 ++ t236)) else (none)))) else (none)))) else (none)))
set_option maxHeartbeats 8000000 in
set_option maxRecDepth 100000 in
theorem castellanref2_Pseudo.calls (a0 : Int) (a1 : Int) (a2 : Int) (a3 : Int) (r : List Int) (w : World) (h : castellanref2_Pseudo.f a0 a1 a2 a3 = some r) :
    Calls Try.prog 39 #[.int .u32 a0, .int .u32 a1, .int .i64 a2, .int .i64 a3] w fun e w' => ∃ v0_ : Value, e = .returned (v0_) ∧ Kd.R (Kd.int .u8) 5 w' w.heap.size (fun _ => True) v0_ r ∧ Below w.heap.size w w' := by
  have HB := Aside0.mk (Below.refl w.heap.size w)
  have H : ((castellanref1_Put32.f a0).bind fun t221 => ((castellanref1_Put32.f a1).bind fun t224 => (if t221.length + t224.length < 140737488355328 then ((some (t221 ++ t224 : List Int)).bind fun y227 => ((some (([0, (a2) % 256] : List Int) : List Int)).bind fun y230 => (if y227.length + y230.length < 140737488355328 then ((some (y227 ++ y230 : List Int)).bind fun y233 => ((castellanref1_Put16.f a3).bind fun t236 => (if y233.length + t236.length < 140737488355328 then (some (y233 ++ t236)) else (none)))) else (none)))) else (none)))) = some r := h
  clear h
  replace H := Option.bind_eq_some_iff.mp H
  obtain ⟨t221, A50, H⟩ := H
  replace H : ((castellanref1_Put32.f a1).bind fun t224 => (if t221.length + t224.length < 140737488355328 then ((some (t221 ++ t224 : List Int)).bind fun y227 => ((some (([0, (a2) % 256] : List Int) : List Int)).bind fun y230 => (if y227.length + y230.length < 140737488355328 then ((some (y227 ++ y230 : List Int)).bind fun y233 => ((castellanref1_Put16.f a3).bind fun t236 => (if y233.length + t236.length < 140737488355328 then (some (y233 ++ t236)) else (none)))) else (none)))) else (none))) = some r := H
  have A5 := Aside0.mk A50
  clear A50
  replace H := Option.bind_eq_some_iff.mp H
  obtain ⟨t224, A60, H⟩ := H
  replace H : (if t221.length + t224.length < 140737488355328 then ((some (t221 ++ t224 : List Int)).bind fun y227 => ((some (([0, (a2) % 256] : List Int) : List Int)).bind fun y230 => (if y227.length + y230.length < 140737488355328 then ((some (y227 ++ y230 : List Int)).bind fun y233 => ((castellanref1_Put16.f a3).bind fun t236 => (if y233.length + t236.length < 140737488355328 then (some (y233 ++ t236)) else (none)))) else (none)))) else (none)) = some r := H
  have A6 := Aside0.mk A60
  clear A60
  by_cases c7 : t221.length + t224.length < 140737488355328
  · rw [if_pos c7] at H
    have LMc7 := Aside0.mk c7
    clear c7
    obtain ⟨y227, hy227⟩ : ∃ y_ : List Int, y_ = (t221 ++ t224) := ⟨_, rfl⟩
    replace H : ((some (([0, (a2) % 256] : List Int) : List Int)).bind fun y230 => (if y227.length + y230.length < 140737488355328 then ((some (y227 ++ y230 : List Int)).bind fun y233 => ((castellanref1_Put16.f a3).bind fun t236 => (if y233.length + t236.length < 140737488355328 then (some (y233 ++ t236)) else (none)))) else (none))) = some r := by first | (rw [hy227]; with_reducible exact H) | (have H2_ := (Option.bind_some _ _).symm.trans H; rw [hy227]; with_reducible exact H2_) | (have H2_ := (Option.bind_some _ _).symm.trans H; with_reducible exact H2_) | with_reducible exact H | (rw [hy227]; exact H) | exact H
    have Ny227 := Aside0.mk hy227
    clear hy227
    obtain ⟨y230, hy230⟩ : ∃ y_ : List Int, y_ = (([0, (a2) % 256] : List Int)) := ⟨_, rfl⟩
    replace H : (if y227.length + y230.length < 140737488355328 then ((some (y227 ++ y230 : List Int)).bind fun y233 => ((castellanref1_Put16.f a3).bind fun t236 => (if y233.length + t236.length < 140737488355328 then (some (y233 ++ t236)) else (none)))) else (none)) = some r := by first | (rw [hy230]; with_reducible exact H) | (have H2_ := (Option.bind_some _ _).symm.trans H; rw [hy230]; with_reducible exact H2_) | (have H2_ := (Option.bind_some _ _).symm.trans H; with_reducible exact H2_) | with_reducible exact H | (rw [hy230]; exact H) | exact H
    have Ny230 := Aside0.mk hy230
    clear hy230
    by_cases c8 : y227.length + y230.length < 140737488355328
    · rw [if_pos c8] at H
      have LMc8 := Aside0.mk c8
      clear c8
      obtain ⟨y233, hy233⟩ : ∃ y_ : List Int, y_ = (y227 ++ y230) := ⟨_, rfl⟩
      replace H : ((castellanref1_Put16.f a3).bind fun t236 => (if y233.length + t236.length < 140737488355328 then (some (y233 ++ t236)) else (none))) = some r := by first | (rw [hy233]; with_reducible exact H) | (have H2_ := (Option.bind_some _ _).symm.trans H; rw [hy233]; with_reducible exact H2_) | (have H2_ := (Option.bind_some _ _).symm.trans H; with_reducible exact H2_) | with_reducible exact H | (rw [hy233]; exact H) | exact H
      have Ny233 := Aside0.mk hy233
      clear hy233
      replace H := Option.bind_eq_some_iff.mp H
      obtain ⟨t236, A90, H⟩ := H
      replace H : (if y233.length + t236.length < 140737488355328 then (some (y233 ++ t236)) else (none)) = some r := H
      have A9 := Aside0.mk A90
      clear A90
      by_cases c10 : y233.length + t236.length < 140737488355328
      · rw [if_pos c10] at H
        have LMc10 := Aside0.mk c10
        clear c10
        obtain ⟨y239, hy239⟩ : ∃ y_ : List Int, y_ = (y233 ++ t236) := ⟨_, rfl⟩
        replace H : (some y239) = some r := by first | (rw [hy239]; with_reducible exact H) | (have H2_ := (Option.bind_some _ _).symm.trans H; rw [hy239]; with_reducible exact H2_) | (have H2_ := (Option.bind_some _ _).symm.trans H; with_reducible exact H2_) | with_reducible exact H | (rw [hy239]; exact H) | exact H
        have Ny239 := Aside0.mk hy239
        clear hy239
        obtain rfl := Option.some.inj H
        go_enter Try.func39, Try.ntmps39
        go_wp2_with (first | ((with_reducible refine gate_callee (f := 54) rfl ?_); refine goesL_ (some 11) rfl rfl Try.func54 (by kernel_rfl) rfl #[.int .u32 a0] rfl (by (try simp only [List.map_toArray, List.map_cons, List.map_nil]); first | done | rfl | (simp only [List.length_drop, List.length_take]; rfl)) ?_; (with_reducible refine (castellanref1_Put32.calls a0 t221 _ A5.out).mono ?_); rintro e w11 ⟨v222, rfl, ho0, hb⟩; refine ⟨_, rfl, ?_⟩; have n0_ := Aside0.mk (Kd.R_lower ho0 (below_size (by repeat (first | (with_reducible first | exact HB.out | apply below_alloc | apply pw_below_drewN | apply below_drew1) | exact HB.out)))); have n1_ := Aside0.mk (below_step (by repeat (first | (with_reducible first | exact HB.out | apply below_alloc | apply pw_below_drewN | apply below_drew1) | exact HB.out)) hb); clear HB; have HO223 := n0_; have HB := n1_; clear n0_ n1_; (try clear hb); (try clear hb2); (try clear hk); (try clear hi); (try clear ho0)) | ((with_reducible refine gate_callee (f := 54) rfl ?_); refine goesL_ (some 13) rfl rfl Try.func54 (by kernel_rfl) rfl #[.int .u32 a1] rfl (by (try simp only [List.map_toArray, List.map_cons, List.map_nil]); first | done | rfl | (simp only [List.length_drop, List.length_take]; rfl)) ?_; (with_reducible refine (castellanref1_Put32.calls a1 t224 _ A6.out).mono ?_); rintro e w12 ⟨v225, rfl, ho0, hb⟩; refine ⟨_, rfl, ?_⟩; have n0_ := Aside0.mk (Kd.R_elder' (by (with_reducible repeat (first | apply Kd.R_alloc | apply Kd.R_drewN | apply Kd.R_drew)); exact HO223.out) (Kd.R_base ho0) hb); have n1_ := Aside0.mk (Kd.R_lower (Kd.R_new' ho0 (Kd.R_lt (by (with_reducible repeat (first | apply Kd.R_alloc | apply Kd.R_drewN | apply Kd.R_drew)); exact HO223.out))) (below_size (by repeat (first | (with_reducible first | exact HB.out | apply below_alloc | apply pw_below_drewN | apply below_drew1) | exact HB.out)))); have n2_ := Aside0.mk (below_step (by repeat (first | (with_reducible first | exact HB.out | apply below_alloc | apply pw_below_drewN | apply below_drew1) | exact HB.out)) hb); clear HO223; clear HB; have HO223 := n0_; have HO226 := n1_; have HB := n2_; clear n0_ n1_ n2_; (try clear hb); (try clear hb2); (try clear hk); (try clear hi); (try clear ho0); obtain ⟨Ao14, co14, eo14⟩ := Kd.R_slice HO226.out; subst eo14) | ((with_reducible refine gate_builtin (b := .append) (xs := #[.tmp 11, .tmp 13]) rfl ?_); at_builtin; refine Kd.R_append_rows (Kd.int .u8) (w0 := w) w.heap.size rfl (.tmp 11) (.tmp 13) 25 5 (.int .u8 0) 1 rfl Try.underlying25 info5 rfl (by decide) (by omega) v222 t221 t224 _ _ _ (fun k_ => some k_ ≠ (.slice Ao14 t224.length co14 : Value).ownBlock) (fun _ => False) rfl rfl ?aO ?aR (fun _ _ h => h) (fun _ h => h.elim) ?aF ?aB ?aS ?aL ?_; (case aR => repeat (first | exact (Kd.R_reads' HO226.out).2.2 | (with_reducible refine Kd.C_alloc ?_ _) | (with_reducible refine Kd.C_drewN ?_ _) | (with_reducible refine Kd.C_drew ?_))); (case aB => exact (by repeat (first | (with_reducible first | exact HB.out | apply below_alloc | apply pw_below_drewN | apply below_drew1) | exact HB.out))); (case aF => exact (fun k_ hk => Kd.fresh' (Kd.R_lt (by (with_reducible repeat (first | apply Kd.R_alloc | apply Kd.R_drewN | apply Kd.R_drew)); exact HO226.out)) k_ hk)); (case aO => exact (by (with_reducible repeat (first | apply Kd.R_alloc | apply Kd.R_drewN | apply Kd.R_drew)); exact Kd.R_mono HO223.out (fun _ hk => hk.2))); (case aS => exact (below_size (by repeat (first | (with_reducible first | exact HB.out | apply below_alloc | apply pw_below_drewN | apply below_drew1) | exact HB.out)))); (case aL => have := LMc7.out; omega); intro v228 w13 ho hb hg hat; rw [← Ny227.out] at ho; have n0_ := Aside0.mk (Kd.R_after (ok := (fun _ => True)) (by (with_reducible repeat (first | apply Kd.R_alloc | apply Kd.R_drewN | apply Kd.R_drew)); exact HO226.out) hg hat); have n1_ := Aside0.mk (hb); have n2_ := Aside0.mk (ho); clear HO226; clear HB; clear HO223; have HO226 := n0_; have HB := n1_; have HO229 := n2_; clear n0_ n1_ n2_; clear ho hb hg hat) | ((with_reducible refine gate_dst (N := 18) rfl ?_); refine Kd.R_lit (Kd.int .u8) _ 5 ?hg (N := 18) ?hd (xs := ([0, (a2) % 256] : List Int)) (inner := [.int .u8 0, .int .u8 ((a2) % 256)]) (ok := fun _ => True) (okp := fun _ => True) ?hr ?hp (fun _ hk => hk) trivial (Below.refl _ _) (Nat.le_refl _) (by simp) ?_; (case hd => rfl); (case hg => rfl); (case hr => first | (go_simp; done) | (go_simp; rfl)); (case hp => exact (Reps.one (show Kd.M (Kd.int .u8) _ _ _ 0 [.int .u8 0] from rfl) (Reps.one (show Kd.M (Kd.int .u8) _ _ _ ((a2) % 256) [.int .u8 ((a2) % 256)] from rfl) (Reps.none _ _)))); intro v231 w15 ho16 hb hg_ hnew_; clear hg_ hnew_; (first | rw [← Ny230.out] at ho16 | (simp only [Int.reduceToNat] at ho16; rw [← Ny230.out] at ho16)); have n0_ := Aside0.mk (Kd.R_elder' (by (with_reducible repeat (first | apply Kd.R_alloc | apply Kd.R_drewN | apply Kd.R_drew)); exact HO226.out) (Kd.R_base ho16) hb); have n1_ := Aside0.mk (Kd.R_elder' (by (with_reducible repeat (first | apply Kd.R_alloc | apply Kd.R_drewN | apply Kd.R_drew)); exact HO229.out) (Kd.R_base ho16) hb); have n2_ := Aside0.mk (Kd.R_lower (Kd.R_new' (Kd.R_new' ho16 (Kd.R_lt (by (with_reducible repeat (first | apply Kd.R_alloc | apply Kd.R_drewN | apply Kd.R_drew)); exact HO226.out))) (Kd.R_lt (by (with_reducible repeat (first | apply Kd.R_alloc | apply Kd.R_drewN | apply Kd.R_drew)); exact HO229.out))) (below_size (by repeat (first | (with_reducible first | exact HB.out | apply below_alloc | apply pw_below_drewN | apply below_drew1) | exact HB.out)))); have n3_ := Aside0.mk (below_step (by repeat (first | (with_reducible first | exact HB.out | apply below_alloc | apply pw_below_drewN | apply below_drew1) | exact HB.out)) hb); clear HO226; clear HO229; clear HB; have HO226 := n0_; have HO229 := n1_; have HO232 := n2_; have HB := n3_; clear n0_ n1_ n2_ n3_; clear hb ho16; obtain ⟨Ao18, co18, eo18⟩ := Kd.R_slice HO232.out; subst eo18) | ((with_reducible refine gate_builtin (b := .append) (xs := #[.tmp 15, .tmp 18]) rfl ?_); at_builtin; refine Kd.R_append_rows (Kd.int .u8) (w0 := w) w.heap.size rfl (.tmp 15) (.tmp 18) 25 5 (.int .u8 0) 1 rfl Try.underlying25 info5 rfl (by decide) (by omega) v228 y227 y230 _ _ _ (fun k_ => some k_ ≠ (.slice Ao14 t224.length co14 : Value).ownBlock ∧ some k_ ≠ (.slice Ao18 y230.length co18 : Value).ownBlock) (fun _ => False) rfl rfl ?aO ?aR (fun _ _ h => h) (fun _ h => h.elim) ?aF ?aB ?aS ?aL ?_; (case aR => repeat (first | exact (Kd.R_reads' HO232.out).2.2 | (with_reducible refine Kd.C_alloc ?_ _) | (with_reducible refine Kd.C_drewN ?_ _) | (with_reducible refine Kd.C_drew ?_))); (case aB => exact (by repeat (first | (with_reducible first | exact HB.out | apply below_alloc | apply pw_below_drewN | apply below_drew1) | exact HB.out))); (case aF => exact (fun k_ hk => ⟨Kd.fresh' (Kd.R_lt (by (with_reducible repeat (first | apply Kd.R_alloc | apply Kd.R_drewN | apply Kd.R_drew)); exact HO226.out)) k_ hk, Kd.fresh' (Kd.R_lt (by (with_reducible repeat (first | apply Kd.R_alloc | apply Kd.R_drewN | apply Kd.R_drew)); exact HO232.out)) k_ hk⟩)); (case aO => exact (by (with_reducible repeat (first | apply Kd.R_alloc | apply Kd.R_drewN | apply Kd.R_drew)); exact HO229.out)); (case aS => exact (below_size (by repeat (first | (with_reducible first | exact HB.out | apply below_alloc | apply pw_below_drewN | apply below_drew1) | exact HB.out)))); (case aL => have := LMc8.out; omega); intro v234 w17 ho hb hg hat; rw [← Ny233.out] at ho; have n0_ := Aside0.mk (Kd.R_after (ok := (fun k_ => some k_ ≠ (.slice Ao18 y230.length co18 : Value).ownBlock)) (by (with_reducible repeat (first | apply Kd.R_alloc | apply Kd.R_drewN | apply Kd.R_drew)); exact Kd.R_mono HO226.out (fun _ hk => ⟨hk.2, hk.1.2⟩)) hg hat); have n1_ := Aside0.mk (Kd.R_after (ok := (fun k_ => some k_ ≠ (.slice Ao14 t224.length co14 : Value).ownBlock)) (by (with_reducible repeat (first | apply Kd.R_alloc | apply Kd.R_drewN | apply Kd.R_drew)); exact Kd.R_mono HO232.out (fun _ hk => ⟨hk.1.2, hk.2⟩)) hg hat); have n2_ := Aside0.mk (hb); have n3_ := Aside0.mk (ho); clear HO226; clear HO232; clear HB; clear HO229; have HO226 := n0_; have HO232 := n1_; have HB := n2_; have HO235 := n3_; clear n0_ n1_ n2_ n3_; clear ho hb hg hat) | ((with_reducible refine gate_callee (f := 53) rfl ?_); refine goesL_ (some 21) rfl rfl Try.func53 (by kernel_rfl) rfl #[.int .i64 a3] rfl (by (try simp only [List.map_toArray, List.map_cons, List.map_nil]); first | done | rfl | (simp only [List.length_drop, List.length_take]; rfl)) ?_; (with_reducible refine (castellanref1_Put16.calls a3 t236 _ A9.out).mono ?_); rintro e w19 ⟨v237, rfl, ho0, hb⟩; refine ⟨_, rfl, ?_⟩; have n0_ := Aside0.mk (Kd.R_elder' (by (with_reducible repeat (first | apply Kd.R_alloc | apply Kd.R_drewN | apply Kd.R_drew)); exact HO226.out) (Kd.R_base ho0) hb); have n1_ := Aside0.mk (Kd.R_elder' (by (with_reducible repeat (first | apply Kd.R_alloc | apply Kd.R_drewN | apply Kd.R_drew)); exact HO232.out) (Kd.R_base ho0) hb); have n2_ := Aside0.mk (Kd.R_elder' (by (with_reducible repeat (first | apply Kd.R_alloc | apply Kd.R_drewN | apply Kd.R_drew)); exact HO235.out) (Kd.R_base ho0) hb); have n3_ := Aside0.mk (Kd.R_lower (Kd.R_new' (Kd.R_new' (Kd.R_new' ho0 (Kd.R_lt (by (with_reducible repeat (first | apply Kd.R_alloc | apply Kd.R_drewN | apply Kd.R_drew)); exact HO226.out))) (Kd.R_lt (by (with_reducible repeat (first | apply Kd.R_alloc | apply Kd.R_drewN | apply Kd.R_drew)); exact HO232.out))) (Kd.R_lt (by (with_reducible repeat (first | apply Kd.R_alloc | apply Kd.R_drewN | apply Kd.R_drew)); exact HO235.out))) (below_size (by repeat (first | (with_reducible first | exact HB.out | apply below_alloc | apply pw_below_drewN | apply below_drew1) | exact HB.out)))); have n4_ := Aside0.mk (below_step (by repeat (first | (with_reducible first | exact HB.out | apply below_alloc | apply pw_below_drewN | apply below_drew1) | exact HB.out)) hb); clear HO226; clear HO232; clear HO235; clear HB; have HO226 := n0_; have HO232 := n1_; have HO235 := n2_; have HO238 := n3_; have HB := n4_; clear n0_ n1_ n2_ n3_ n4_; (try clear hb); (try clear hb2); (try clear hk); (try clear hi); (try clear ho0); obtain ⟨Ao21, co21, eo21⟩ := Kd.R_slice HO238.out; subst eo21) | ((with_reducible refine gate_builtin (b := .append) (xs := #[.tmp 19, .tmp 21]) rfl ?_); at_builtin; refine Kd.R_append_rows (Kd.int .u8) (w0 := w) w.heap.size rfl (.tmp 19) (.tmp 21) 25 5 (.int .u8 0) 1 rfl Try.underlying25 info5 rfl (by decide) (by omega) v234 y233 t236 _ _ _ (fun k_ => some k_ ≠ (.slice Ao14 t224.length co14 : Value).ownBlock ∧ some k_ ≠ (.slice Ao18 y230.length co18 : Value).ownBlock ∧ some k_ ≠ (.slice Ao21 t236.length co21 : Value).ownBlock) (fun _ => False) rfl rfl ?aO ?aR (fun _ _ h => h) (fun _ h => h.elim) ?aF ?aB ?aS ?aL ?_; (case aR => repeat (first | exact (Kd.R_reads' HO238.out).2.2 | (with_reducible refine Kd.C_alloc ?_ _) | (with_reducible refine Kd.C_drewN ?_ _) | (with_reducible refine Kd.C_drew ?_))); (case aB => exact (by repeat (first | (with_reducible first | exact HB.out | apply below_alloc | apply pw_below_drewN | apply below_drew1) | exact HB.out))); (case aF => exact (fun k_ hk => ⟨Kd.fresh' (Kd.R_lt (by (with_reducible repeat (first | apply Kd.R_alloc | apply Kd.R_drewN | apply Kd.R_drew)); exact HO226.out)) k_ hk, Kd.fresh' (Kd.R_lt (by (with_reducible repeat (first | apply Kd.R_alloc | apply Kd.R_drewN | apply Kd.R_drew)); exact HO232.out)) k_ hk, Kd.fresh' (Kd.R_lt (by (with_reducible repeat (first | apply Kd.R_alloc | apply Kd.R_drewN | apply Kd.R_drew)); exact HO238.out)) k_ hk⟩)); (case aO => exact (by (with_reducible repeat (first | apply Kd.R_alloc | apply Kd.R_drewN | apply Kd.R_drew)); exact Kd.R_mono HO235.out (fun _ hk => ⟨hk.1.1, ⟨hk.1.2, hk.2⟩⟩))); (case aS => exact (below_size (by repeat (first | (with_reducible first | exact HB.out | apply below_alloc | apply pw_below_drewN | apply below_drew1) | exact HB.out)))); (case aL => have := LMc10.out; omega); intro v240 w20 ho hb hg hat; rw [← Ny239.out] at ho; have n0_ := Aside0.mk (Kd.R_after (ok := (fun k_ => some k_ ≠ (.slice Ao18 y230.length co18 : Value).ownBlock ∧ some k_ ≠ (.slice Ao21 t236.length co21 : Value).ownBlock)) (by (with_reducible repeat (first | apply Kd.R_alloc | apply Kd.R_drewN | apply Kd.R_drew)); exact Kd.R_mono HO226.out (fun _ hk => ⟨⟨hk.1.1, hk.2⟩, hk.1.2⟩)) hg hat); have n1_ := Aside0.mk (Kd.R_after (ok := (fun k_ => some k_ ≠ (.slice Ao14 t224.length co14 : Value).ownBlock ∧ some k_ ≠ (.slice Ao21 t236.length co21 : Value).ownBlock)) (by (with_reducible repeat (first | apply Kd.R_alloc | apply Kd.R_drewN | apply Kd.R_drew)); exact Kd.R_mono HO232.out (fun _ hk => ⟨⟨hk.1.1, hk.2⟩, hk.1.2⟩)) hg hat); have n2_ := Aside0.mk (Kd.R_after (ok := (fun k_ => some k_ ≠ (.slice Ao14 t224.length co14 : Value).ownBlock ∧ some k_ ≠ (.slice Ao18 y230.length co18 : Value).ownBlock)) (by (with_reducible repeat (first | apply Kd.R_alloc | apply Kd.R_drewN | apply Kd.R_drew)); exact Kd.R_mono HO238.out (fun _ hk => ⟨⟨hk.1.1.2, hk.1.2⟩, hk.2⟩)) hg hat); have n3_ := Aside0.mk (hb); have n4_ := Aside0.mk (ho); clear HO226; clear HO232; clear HO238; clear HB; clear HO235; have HO226 := n0_; have HO232 := n1_; have HO238 := n2_; have HB := n3_; have HO241 := n4_; clear n0_ n1_ n2_ n3_ n4_; clear ho hb hg hat))
        go_ret
        exact ⟨_, by first | rfl | (simp [errW_none, errW_some] <;> rfl) | (simp [*, errW_none, errW_some] <;> rfl), by (with_reducible repeat (first | apply Kd.R_alloc | apply Kd.R_drewN | apply Kd.R_drew)); exact Kd.R_mono HO241.out (fun _ hk => trivial), by repeat (first | (with_reducible first | exact HB.out | apply below_alloc | apply pw_below_drewN | apply below_drew1) | exact HB.out)⟩
      · rw [if_neg c10] at H
        exact absurd H (by simp)
    · rw [if_neg c8] at H
      exact absurd H (by simp)
  · rw [if_neg c7] at H
    exact absurd H (by simp)

/-! ### castellanref1_at: function 61 -/
def castellanref1_at.f (l0 : List Int) (a1 : Int) : Option (Int) := if a1 < 0 then (some 0) else (if a1 ≥ (l0.length : Int) then (some 0) else (if 0 ≤ a1 then (if a1 < (l0.length : Int) then (some ((rd l0 a1) % 4294967296)) else (none)) else (none)))
set_option maxHeartbeats 8000000 in
set_option maxRecDepth 100000 in
theorem castellanref1_at.calls (A0 : Option Addr) (c0 : Nat) (l0 : List Int) (a1 : Int) (r : Int) (w : World) (hr0 : Kd.C (Kd.int .u8) w A0 l0.length l0) (hc0 : l0.length ≤ c0) (h : castellanref1_at.f l0 a1 = some r) :
    Calls Try.prog 61 #[.slice A0 l0.length c0, .int .i64 a1] w fun e w' => e = .returned (.int .u32 r) ∧ Drawn0 w w' := by
  have HR0 := Aside0.mk hr0
  have HC0 := Aside0.mk hc0
  clear hr0 hc0
  have H : (if a1 < 0 then (some 0) else (if a1 ≥ (l0.length : Int) then (some 0) else (if 0 ≤ a1 then (if a1 < (l0.length : Int) then (some ((rd l0 a1) % 4294967296)) else (none)) else (none)))) = some r := h
  clear h
  by_cases c3 : a1 < 0
  · rw [if_pos c3] at H
    have c3b0 : decide (a1 < 0) = true := decide_eq_true c3
    clear c3
    obtain rfl := Option.some.inj H
    go_enter Try.func61, Try.ntmps61
    go_wp2
    go_ret
    exact ⟨by first | rfl | (simp; done) | (simp [*]; done), by repeat (first | exact Drawn0.refl _ | apply Drawn0.step)⟩
  · rw [if_neg c3] at H
    have c3b0 : decide (a1 < 0) = false := decide_eq_false c3
    clear c3
    by_cases c4 : a1 ≥ (l0.length : Int)
    · rw [if_pos c4] at H
      have c4b0 : decide ((l0.length : Int) ≤ a1) = true := decide_eq_true c4
      clear c4
      obtain rfl := Option.some.inj H
      go_enter Try.func61, Try.ntmps61
      go_wp2
      go_ret
      exact ⟨by first | rfl | (simp; done) | (simp [*]; done), by repeat (first | exact Drawn0.refl _ | apply Drawn0.step)⟩
    · rw [if_neg c4] at H
      have c4b0 : decide ((l0.length : Int) ≤ a1) = false := decide_eq_false c4
      clear c4
      by_cases c5 : 0 ≤ a1
      · rw [if_pos c5] at H
        have c5b0 : decide (0 ≤ a1) = true := decide_eq_true c5
        clear c5
        by_cases c6 : a1 < (l0.length : Int)
        · rw [if_pos c6] at H
          have c6b0 : decide (a1 < (l0.length : Int)) = true := decide_eq_true c6
          clear c6
          obtain rfl := Option.some.inj H
          have p242 : 0 ≤ (a1 : Int) := of_decide_eq_true (by first | (with_reducible assumption) | assumption)
          have q242 : a1 < (l0.length : Int) := of_decide_eq_true (by first | (with_reducible assumption) | assumption)
          obtain ⟨ad242, e242, hx242_0⟩ := Kd.at_int HR0.out a1 p242 q242
          cases e242
          replace p242 := eq_true p242
          replace q242 := eq_true q242
          go_enter Try.func61, Try.ntmps61
          go_wp2
          go_ret
          exact ⟨by first | rfl | (simp; done) | (simp [*]; done), by repeat (first | exact Drawn0.refl _ | apply Drawn0.step)⟩
        · rw [if_neg c6] at H
          exact absurd H (by simp)
      · rw [if_neg c5] at H
        exact absurd H (by simp)

/-! ### castellanref1_Get16: function 44 -/
def castellanref1_Get16.f (l0 : List Int) (a1 : Int) : Option (Int) := (castellanref1_at.f l0 a1).bind fun t243 => ((castellanref1_at.f l0 (wrap64 (a1 + 1))).bind fun t244 => (some (wrap64 (Go.bits .or .u32 ((t243 * 256) % 4294967296) t244))))
set_option maxHeartbeats 8000000 in
set_option maxRecDepth 100000 in
theorem castellanref1_Get16.calls (A0 : Option Addr) (c0 : Nat) (l0 : List Int) (a1 : Int) (r : Int) (w : World) (hr0 : Kd.C (Kd.int .u8) w A0 l0.length l0) (hc0 : l0.length ≤ c0) (h : castellanref1_Get16.f l0 a1 = some r) :
    Calls Try.prog 44 #[.slice A0 l0.length c0, .int .i64 a1] w fun e w' => e = .returned (.int .i64 r) ∧ Drawn0 w w' := by
  have HR0 := Aside0.mk hr0
  have HC0 := Aside0.mk hc0
  clear hr0 hc0
  have H : ((castellanref1_at.f l0 a1).bind fun t243 => ((castellanref1_at.f l0 (wrap64 (a1 + 1))).bind fun t244 => (some (wrap64 (Go.bits .or .u32 ((t243 * 256) % 4294967296) t244))))) = some r := h
  clear h
  replace H := Option.bind_eq_some_iff.mp H
  obtain ⟨t243, A30, H⟩ := H
  replace H : ((castellanref1_at.f l0 (wrap64 (a1 + 1))).bind fun t244 => (some (wrap64 (Go.bits .or .u32 ((t243 * 256) % 4294967296) t244)))) = some r := H
  have A3 := Aside0.mk A30
  clear A30
  replace H := Option.bind_eq_some_iff.mp H
  obtain ⟨t244, A40, H⟩ := H
  replace H : (some (wrap64 (Go.bits .or .u32 ((t243 * 256) % 4294967296) t244))) = some r := H
  have A4 := Aside0.mk A40
  clear A40
  obtain rfl := Option.some.inj H
  go_enter Try.func44, Try.ntmps44
  go_wp2_with (first | ((with_reducible refine gate_callee (f := 61) rfl ?_); refine goesL_ (some 7) rfl rfl Try.func61 (by kernel_rfl) rfl #[.slice A0 l0.length c0, .int .i64 a1] rfl (by (try simp only [List.map_toArray, List.map_cons, List.map_nil]); first | done | rfl | (simp only [List.length_drop, List.length_take]; rfl)) ?_; (with_reducible refine (castellanref1_at.calls _ _ l0 a1 t243 _ ?side1 ?side2 A3.out).mono ?_); (case side1 => repeat (first | exact HR0.out | (with_reducible refine Kd.C_alloc ?_ _) | (with_reducible refine Kd.C_drewN ?_ _) | (with_reducible refine Kd.C_drew ?_))); (case side2 => exact HC0.out); rintro e w' ⟨rfl, ⟨nd, rfl⟩⟩; refine ⟨_, rfl, ?_⟩) | ((with_reducible refine gate_callee (f := 61) rfl ?_); refine goesL_ (some 12) rfl rfl Try.func61 (by kernel_rfl) rfl #[.slice A0 l0.length c0, .int .i64 (wrap64 (a1 + 1))] rfl (by (try simp only [List.map_toArray, List.map_cons, List.map_nil]); first | done | rfl | (simp only [List.length_drop, List.length_take]; rfl)) ?_; (with_reducible refine (castellanref1_at.calls _ _ l0 (wrap64 (a1 + 1)) t244 _ ?side1 ?side2 A4.out).mono ?_); (case side1 => repeat (first | exact HR0.out | (with_reducible refine Kd.C_alloc ?_ _) | (with_reducible refine Kd.C_drewN ?_ _) | (with_reducible refine Kd.C_drew ?_))); (case side2 => exact HC0.out); rintro e w' ⟨rfl, ⟨nd, rfl⟩⟩; refine ⟨_, rfl, ?_⟩))
  go_ret
  exact ⟨by first | rfl | (simp; done) | (simp [*]; done), by repeat (first | exact Drawn0.refl _ | apply Drawn0.step)⟩

/-! ### castellanref2_fold: function 64 -/
def castellanref2_fold.l0 : Nat → Int → Option (Int)
  | 0, _ => none
  | k + 1, x0 => if x0 > 65535 then (castellanref2_fold.l0 k (wrap64 ((Go.bits .and .i64 x0 65535) + (x0 / 65536)))) else (some x0)
def castellanref2_fold.f (k : Nat) (a0 : Int) : Option (Int) := castellanref2_fold.l0 k a0
theorem castellanref2_fold.mono_l : ∀ k, (∀ y0, LeO (castellanref2_fold.l0 k y0) (castellanref2_fold.l0 (k + 1) y0))
  | 0 => fun _ r h => by simp [castellanref2_fold.l0] at h
  | k + 1 => by
    have ih0 := castellanref2_fold.mono_l k
    · intro y0
      unfold castellanref2_fold.l0
      repeat' first
      | (with_reducible exact ih0 _)
      | (with_reducible exact LeO.refl _)
      | (with_reducible exact LeO.none _)
      | (with_reducible refine LeO.ite ?_ ?_)
      | (with_reducible refine LeO.bind ?_ (fun _ => ?_))
      | exact ih0 _
      | exact LeO.none _
      | refine LeO.ite ?_ ?_
      | refine LeO.bind ?_ (fun _ => ?_)
theorem castellanref2_fold.mono : ∀ a0 k, LeO (castellanref2_fold.f k a0) (castellanref2_fold.f (k + 1) a0) := by
  intro a0 k
  have ih0 := castellanref2_fold.mono_l k
  unfold castellanref2_fold.f
  repeat' first
      | (with_reducible exact ih0 _)
      | (with_reducible exact LeO.refl _)
      | (with_reducible exact LeO.none _)
      | (with_reducible refine LeO.ite ?_ ?_)
      | (with_reducible refine LeO.bind ?_ (fun _ => ?_))
      | exact ih0 _
      | exact LeO.none _
      | refine LeO.ite ?_ ?_
      | refine LeO.bind ?_ (fun _ => ?_)
set_option maxHeartbeats 8000000 in
set_option maxRecDepth 100000 in
theorem castellanref2_fold.calls (k : Nat) (a0 : Int) (r : Int) (w : World) (h : castellanref2_fold.f k a0 = some r) :
    Calls Try.prog 64 #[.int .i64 a0] w fun e w' => e = .returned (.int .i64 r) ∧ Drawn0 w w' := by
  have H : (castellanref2_fold.l0 k a0) = some r := h
  clear h
  have H' := Aside0.mk H
  clear H
  go_enter Try.func64, Try.ntmps64
  go_wp2
  go_loopg [0] k (fun kq v0 w' => ∃ (x0_1 : Int), v0 = .int .i64 x0_1 ∧ Aside0 (castellanref2_fold.l0 kq x0_1 = some r) ∧ Aside0 (kq ≤ k) ∧ Drawn0 w w')
  case atStart => exact ⟨(a0), (by first | rfl | (simp; done) | (simp [*]; done)), H', ⟨Nat.le_refl _⟩, by repeat (first | exact Drawn0.refl _ | apply Drawn0.step)⟩
  case round =>
    clear H'
    obtain ⟨x0_1, rfl, HA, HK1, ⟨m1, rfl⟩⟩ := hrel
    cases gk with
    | zero => exact absurd HA.out (by simp [castellanref2_fold.l0])
    | succ k1 =>
      have H := HA.out
      clear HA
      simp only [castellanref2_fold.l0] at H
      by_cases c2 : x0_1 > 65535
      · rw [if_pos c2] at H
        have c2b0 : decide (65535 < x0_1) = true := decide_eq_true c2
        clear c2
        have H' := Aside0.mk H
        clear H
        go_wp2
        go_roundg k1
        case measure => have := HK1.out; omega
        case rel => exact ⟨(wrap64 ((Go.bits .and .i64 x0_1 65535) + (x0_1 / 65536))), (by first | rfl | (simp; done) | (simp [*]; done)), H', ⟨by have := HK1.out; omega⟩, by repeat (first | exact Drawn0.refl _ | apply Drawn0.step)⟩
      · rw [if_neg c2] at H
        have c2b0 : decide (65535 < x0_1) = false := decide_eq_false c2
        clear c2
        obtain rfl := Option.some.inj H
        go_wp2
        go_ret
        exact ⟨by first | rfl | (simp; done) | (simp [*]; done), by repeat (first | exact Drawn0.refl _ | apply Drawn0.step)⟩

/-! ### castellanref2_Of: function 55 -/
def castellanref2_Of.l0 : Nat → List Int → Int → Int → Option (Int)
  | 0, _, _, _ => none
  | k + 1, x0, x3, x4 => if x4 < (x0.length : Int) then ((castellanref1_Get16.f x0 x4).bind fun t245 => ((castellanref2_fold.f k (wrap64 (x3 + t245))).bind fun t246 => (castellanref2_Of.l0 k x0 t246 (wrap64 (x4 + 2))))) else (some (wrap64 (65535 - x3)))
def castellanref2_Of.f (k : Nat) (l0 : List Int) : Option (Int) := castellanref2_Of.l0 k l0 0 0
theorem castellanref2_Of.mono_l : ∀ k, (∀ y0 y1 y2, LeO (castellanref2_Of.l0 k y0 y1 y2) (castellanref2_Of.l0 (k + 1) y0 y1 y2))
  | 0 => fun _ _ _ r h => by simp [castellanref2_Of.l0] at h
  | k + 1 => by
    have ih0 := castellanref2_Of.mono_l k
    · intro y0 y1 y2
      unfold castellanref2_Of.l0
      repeat' first
      | (with_reducible exact ih0 _ _ _)
      | (with_reducible exact castellanref2_fold.mono _ _)
      | (with_reducible exact LeO.refl _)
      | (with_reducible exact LeO.none _)
      | (with_reducible refine LeO.ite ?_ ?_)
      | (with_reducible refine LeO.bind ?_ (fun _ => ?_))
      | exact ih0 _ _ _
      | exact castellanref2_fold.mono _ _
      | exact LeO.none _
      | refine LeO.ite ?_ ?_
      | refine LeO.bind ?_ (fun _ => ?_)
theorem castellanref2_Of.mono : ∀ a0 k, LeO (castellanref2_Of.f k a0) (castellanref2_Of.f (k + 1) a0) := by
  intro a0 k
  have ih0 := castellanref2_Of.mono_l k
  unfold castellanref2_Of.f
  repeat' first
      | (with_reducible exact ih0 _ _ _)
      | (with_reducible exact castellanref2_fold.mono _ _)
      | (with_reducible exact LeO.refl _)
      | (with_reducible exact LeO.none _)
      | (with_reducible refine LeO.ite ?_ ?_)
      | (with_reducible refine LeO.bind ?_ (fun _ => ?_))
      | exact ih0 _ _ _
      | exact castellanref2_fold.mono _ _
      | exact LeO.none _
      | refine LeO.ite ?_ ?_
      | refine LeO.bind ?_ (fun _ => ?_)
set_option maxHeartbeats 8000000 in
set_option maxRecDepth 100000 in
theorem castellanref2_Of.calls (k : Nat) (A0 : Option Addr) (c0 : Nat) (l0 : List Int) (r : Int) (w : World) (hr0 : Kd.C (Kd.int .u8) w A0 l0.length l0) (hc0 : l0.length ≤ c0) (h : castellanref2_Of.f k l0 = some r) :
    Calls Try.prog 55 #[.slice A0 l0.length c0] w fun e w' => e = .returned (.int .i64 r) ∧ Drawn0 w w' := by
  have HR0 := Aside0.mk hr0
  have HC0 := Aside0.mk hc0
  clear hr0 hc0
  have H : (castellanref2_Of.l0 k l0 0 0) = some r := h
  clear h
  have H' := Aside0.mk H
  clear H
  go_enter Try.func55, Try.ntmps55
  go_wp2
  go_loopg [3, 4] k (fun kq v3 v4 w' => ∃ (x3_1 : Int) (x4_1 : Int), v3 = .int .i64 x3_1 ∧ v4 = .int .i64 x4_1 ∧ Aside0 (castellanref2_Of.l0 kq l0 x3_1 x4_1 = some r) ∧ Aside0 (kq ≤ k) ∧ Drawn0 w w')
  case atStart => exact ⟨(0), (0), (by first | rfl | (simp; done) | (simp [*]; done)), (by first | rfl | (simp; done) | (simp [*]; done)), H', ⟨Nat.le_refl _⟩, by repeat (first | exact Drawn0.refl _ | apply Drawn0.step)⟩
  case round =>
    clear H'
    obtain ⟨x3_1, x4_1, rfl, rfl, HA, HK1, ⟨m1, rfl⟩⟩ := hrel
    cases gk with
    | zero => exact absurd HA.out (by simp [castellanref2_Of.l0])
    | succ k1 =>
      have H := HA.out
      clear HA
      simp only [castellanref2_Of.l0] at H
      by_cases c2 : x4_1 < (l0.length : Int)
      · rw [if_pos c2] at H
        have c2b0 : decide (x4_1 < (l0.length : Int)) = true := decide_eq_true c2
        clear c2
        replace H := Option.bind_eq_some_iff.mp H
        obtain ⟨t245, A30, H⟩ := H
        replace H : ((castellanref2_fold.f k1 (wrap64 (x3_1 + t245))).bind fun t246 => (castellanref2_Of.l0 k1 l0 t246 (wrap64 (x4_1 + 2)))) = some r := H
        have A3 := Aside0.mk A30
        clear A30
        replace H := Option.bind_eq_some_iff.mp H
        obtain ⟨t246, A40, H⟩ := H
        replace H : (castellanref2_Of.l0 k1 l0 t246 (wrap64 (x4_1 + 2))) = some r := H
        have A4 := Aside0.mk A40
        clear A40
        have H' := Aside0.mk H
        clear H
        go_wp2_with (first | ((with_reducible refine gate_callee (f := 44) rfl ?_); refine goesL_ (some 14) rfl rfl Try.func44 (by kernel_rfl) rfl #[.slice A0 l0.length c0, .int .i64 x4_1] rfl (by (try simp only [List.map_toArray, List.map_cons, List.map_nil]); first | done | rfl | (simp only [List.length_drop, List.length_take]; rfl)) ?_; (with_reducible refine (castellanref1_Get16.calls _ _ l0 x4_1 t245 _ ?side1 ?side2 A3.out).mono ?_); (case side1 => repeat (first | exact HR0.out | (with_reducible refine Kd.C_alloc ?_ _) | (with_reducible refine Kd.C_drewN ?_ _) | (with_reducible refine Kd.C_drew ?_))); (case side2 => exact HC0.out); rintro e w' ⟨rfl, ⟨nd, rfl⟩⟩; refine ⟨_, rfl, ?_⟩) | ((with_reducible refine gate_callee (f := 64) rfl ?_); refine goesL_ (some 16) rfl rfl Try.func64 (by kernel_rfl) rfl #[.int .i64 (wrap64 (x3_1 + t245))] rfl (by (try simp only [List.map_toArray, List.map_cons, List.map_nil]); first | done | rfl | (simp only [List.length_drop, List.length_take]; rfl)) ?_; (with_reducible refine (castellanref2_fold.calls k1 (wrap64 (x3_1 + t245)) t246 _ A4.out).mono ?_); rintro e w' ⟨rfl, ⟨nd, rfl⟩⟩; refine ⟨_, rfl, ?_⟩))
        go_roundg k1
        case measure => have := HK1.out; omega
        case rel => exact ⟨(t246), (wrap64 (x4_1 + 2)), (by first | rfl | (simp; done) | (simp [*]; done)), (by first | rfl | (simp; done) | (simp [*]; done)), H', ⟨by have := HK1.out; omega⟩, by repeat (first | exact Drawn0.refl _ | apply Drawn0.step)⟩
      · rw [if_neg c2] at H
        have c2b0 : decide (x4_1 < (l0.length : Int)) = false := decide_eq_false c2
        clear c2
        obtain rfl := Option.some.inj H
        go_wp2
        go_ret
        exact ⟨by first | rfl | (simp; done) | (simp [*]; done), by repeat (first | exact Drawn0.refl _ | apply Drawn0.step)⟩

end Go.Proofs.Ytbenimfjhcbplaa.QTcpBuilds
