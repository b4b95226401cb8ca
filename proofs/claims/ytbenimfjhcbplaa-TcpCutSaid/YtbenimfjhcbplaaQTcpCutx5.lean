-- written by myprint.py, a program of this session's over the kit's printer
import Derived.Test.YtbenimfjhcbplaaQTcpCutx0
import Derived.Test.YtbenimfjhcbplaaQTcpCutx1
import Derived.Test.YtbenimfjhcbplaaQTcpCutx2
import Derived.Test.YtbenimfjhcbplaaQTcpCutx4
namespace Go.Proofs.Ytbenimfjhcbplaa.QTcpCut
open Go.RowKit Go.Proofs.YtbenimfjhcbplaaW.PrintWords Go.Proofs.YtbenimfjhcbplaaW.PrintLast Go.Proofs.YtbenimfjhcbplaaW.PrintMore
attribute [local go_sem] max2_int min2_int max_two min_two max_three min_three max_four min_four   -- for this text's walks alone
set_option linter.unusedVariables false
set_option linter.unusedSimpArgs false

/-! ### castellanref5_half: function 59 -/
def castellanref5_half.f (a0 : Int) : Option (Bool) := if a0 ≥ 0 then (some (decide (a0 ≤ 65535))) else (some false)
set_option maxHeartbeats 8000000 in
set_option maxRecDepth 100000 in
theorem castellanref5_half.calls (a0 : Int) (r : Bool) (w : World) (h : castellanref5_half.f a0 = some r) :
    Calls Try.prog 59 #[.int .i64 a0] w fun e w' => e = .returned (.bool r) ∧ Drawn0 w w' := by
  have H : (if a0 ≥ 0 then (some (decide (a0 ≤ 65535))) else (some false)) = some r := h
  clear h
  by_cases c2 : a0 ≥ 0
  · rw [if_pos c2] at H
    have c2b0 : decide (0 ≤ a0) = true := decide_eq_true c2
    clear c2
    obtain rfl := Option.some.inj H
    go_enter Try.func59, Try.ntmps59
    go_wp2
    go_ret
    exact ⟨by first | rfl | (simp; done) | (simp [*]; done), by repeat (first | exact Drawn0.refl _ | apply Drawn0.step)⟩
  · rw [if_neg c2] at H
    have c2b0 : decide (0 ≤ a0) = false := decide_eq_false c2
    clear c2
    obtain rfl := Option.some.inj H
    go_enter Try.func59, Try.ntmps59
    go_wp2
    go_ret
    exact ⟨by first | rfl | (simp; done) | (simp [*]; done), by repeat (first | exact Drawn0.refl _ | apply Drawn0.step)⟩

/-! ### castellanref5_Is: function 38 -/
def castellanref5_Is.f (a0_0 : Int) (a0_1 : Int) (a0_2 : Int) (a0_3 : Int) (a0_4 : Int) (a0_5 : Int) (a0_6 : Int) (l0_7 : List Int) (l0_8 : List Int) : Option (Bool) := (castellanref5_half.f a0_0).bind fun t236 => (if t236 = true then ((castellanref5_half.f a0_1).bind fun t237 => (if t237 = true then ((castellanref5_half.f a0_5).bind fun t238 => (if t238 = true then ((castellanref5_half.f a0_6).bind fun t239 => (if t239 = true then (if a0_4 ≥ 0 then (if a0_4 ≤ 63 then (if ((l0_7.length : Int) % 4) = 0 then (if (l0_7.length : Int) ≤ 40 then (some (decide ((wrap64 ((wrap64 (20 + (l0_7.length : Int))) + (l0_8.length : Int))) ≤ 65000))) else (some false)) else (some false)) else (some false)) else (some false)) else (some false))) else (some false))) else (some false))) else (some false))
set_option maxHeartbeats 8000000 in
set_option maxRecDepth 100000 in
theorem castellanref5_Is.calls (a0_0 : Int) (a0_1 : Int) (a0_2 : Int) (a0_3 : Int) (a0_4 : Int) (a0_5 : Int) (a0_6 : Int) (A0_7 : Option Addr) (c0_7 : Nat) (l0_7 : List Int) (A0_8 : Option Addr) (c0_8 : Nat) (l0_8 : List Int) (r : Bool) (w : World) (hr0_7 : Kd.C (Kd.int .u8) w A0_7 l0_7.length l0_7) (hc0_7 : l0_7.length ≤ c0_7) (hr0_8 : Kd.C (Kd.int .u8) w A0_8 l0_8.length l0_8) (hc0_8 : l0_8.length ≤ c0_8) (h : castellanref5_Is.f a0_0 a0_1 a0_2 a0_3 a0_4 a0_5 a0_6 l0_7 l0_8 = some r) :
    Calls Try.prog 38 #[.agg #[.int .i64 a0_0, .int .i64 a0_1, .int .u32 a0_2, .int .u32 a0_3, .int .i64 a0_4, .int .i64 a0_5, .int .i64 a0_6, .slice A0_7 l0_7.length c0_7, .slice A0_8 l0_8.length c0_8]] w fun e w' => e = .returned (.bool r) ∧ Below w.heap.size w w' := by
  have hu27 := Try.underlying27
  have HR0_7 := Aside0.mk hr0_7
  have HC0_7 := Aside0.mk hc0_7
  clear hr0_7 hc0_7
  have HR0_8 := Aside0.mk hr0_8
  have HC0_8 := Aside0.mk hc0_8
  clear hr0_8 hc0_8
  have HB := Aside0.mk (Below.refl w.heap.size w)
  have H : ((castellanref5_half.f a0_0).bind fun t236 => (if t236 = true then ((castellanref5_half.f a0_1).bind fun t237 => (if t237 = true then ((castellanref5_half.f a0_5).bind fun t238 => (if t238 = true then ((castellanref5_half.f a0_6).bind fun t239 => (if t239 = true then (if a0_4 ≥ 0 then (if a0_4 ≤ 63 then (if ((l0_7.length : Int) % 4) = 0 then (if (l0_7.length : Int) ≤ 40 then (some (decide ((wrap64 ((wrap64 (20 + (l0_7.length : Int))) + (l0_8.length : Int))) ≤ 65000))) else (some false)) else (some false)) else (some false)) else (some false)) else (some false))) else (some false))) else (some false))) else (some false))) = some r := h
  clear h
  replace H := Option.bind_eq_some_iff.mp H
  obtain ⟨t236, A20, H⟩ := H
  replace H : (if t236 = true then ((castellanref5_half.f a0_1).bind fun t237 => (if t237 = true then ((castellanref5_half.f a0_5).bind fun t238 => (if t238 = true then ((castellanref5_half.f a0_6).bind fun t239 => (if t239 = true then (if a0_4 ≥ 0 then (if a0_4 ≤ 63 then (if ((l0_7.length : Int) % 4) = 0 then (if (l0_7.length : Int) ≤ 40 then (some (decide ((wrap64 ((wrap64 (20 + (l0_7.length : Int))) + (l0_8.length : Int))) ≤ 65000))) else (some false)) else (some false)) else (some false)) else (some false)) else (some false))) else (some false))) else (some false))) else (some false)) = some r := H
  have A2 := Aside0.mk A20
  clear A20
  by_cases c3 : t236 = true
  · subst c3
    have H1 : ((castellanref5_half.f a0_1).bind fun t237 => (if t237 = true then ((castellanref5_half.f a0_5).bind fun t238 => (if t238 = true then ((castellanref5_half.f a0_6).bind fun t239 => (if t239 = true then (if a0_4 ≥ 0 then (if a0_4 ≤ 63 then (if ((l0_7.length : Int) % 4) = 0 then (if (l0_7.length : Int) ≤ 40 then (some (decide ((wrap64 ((wrap64 (20 + (l0_7.length : Int))) + (l0_8.length : Int))) ≤ 65000))) else (some false)) else (some false)) else (some false)) else (some false)) else (some false))) else (some false))) else (some false))) = some r := by rw [if_pos rfl] at H; exact H
    clear H
    have H := H1
    clear H1
    replace H := Option.bind_eq_some_iff.mp H
    obtain ⟨t237, A40, H⟩ := H
    replace H : (if t237 = true then ((castellanref5_half.f a0_5).bind fun t238 => (if t238 = true then ((castellanref5_half.f a0_6).bind fun t239 => (if t239 = true then (if a0_4 ≥ 0 then (if a0_4 ≤ 63 then (if ((l0_7.length : Int) % 4) = 0 then (if (l0_7.length : Int) ≤ 40 then (some (decide ((wrap64 ((wrap64 (20 + (l0_7.length : Int))) + (l0_8.length : Int))) ≤ 65000))) else (some false)) else (some false)) else (some false)) else (some false)) else (some false))) else (some false))) else (some false)) = some r := H
    have A4 := Aside0.mk A40
    clear A40
    by_cases c5 : t237 = true
    · subst c5
      have H1 : ((castellanref5_half.f a0_5).bind fun t238 => (if t238 = true then ((castellanref5_half.f a0_6).bind fun t239 => (if t239 = true then (if a0_4 ≥ 0 then (if a0_4 ≤ 63 then (if ((l0_7.length : Int) % 4) = 0 then (if (l0_7.length : Int) ≤ 40 then (some (decide ((wrap64 ((wrap64 (20 + (l0_7.length : Int))) + (l0_8.length : Int))) ≤ 65000))) else (some false)) else (some false)) else (some false)) else (some false)) else (some false))) else (some false))) = some r := by rw [if_pos rfl] at H; exact H
      clear H
      have H := H1
      clear H1
      replace H := Option.bind_eq_some_iff.mp H
      obtain ⟨t238, A60, H⟩ := H
      replace H : (if t238 = true then ((castellanref5_half.f a0_6).bind fun t239 => (if t239 = true then (if a0_4 ≥ 0 then (if a0_4 ≤ 63 then (if ((l0_7.length : Int) % 4) = 0 then (if (l0_7.length : Int) ≤ 40 then (some (decide ((wrap64 ((wrap64 (20 + (l0_7.length : Int))) + (l0_8.length : Int))) ≤ 65000))) else (some false)) else (some false)) else (some false)) else (some false)) else (some false))) else (some false)) = some r := H
      have A6 := Aside0.mk A60
      clear A60
      by_cases c7 : t238 = true
      · subst c7
        have H1 : ((castellanref5_half.f a0_6).bind fun t239 => (if t239 = true then (if a0_4 ≥ 0 then (if a0_4 ≤ 63 then (if ((l0_7.length : Int) % 4) = 0 then (if (l0_7.length : Int) ≤ 40 then (some (decide ((wrap64 ((wrap64 (20 + (l0_7.length : Int))) + (l0_8.length : Int))) ≤ 65000))) else (some false)) else (some false)) else (some false)) else (some false)) else (some false))) = some r := by rw [if_pos rfl] at H; exact H
        clear H
        have H := H1
        clear H1
        replace H := Option.bind_eq_some_iff.mp H
        obtain ⟨t239, A80, H⟩ := H
        replace H : (if t239 = true then (if a0_4 ≥ 0 then (if a0_4 ≤ 63 then (if ((l0_7.length : Int) % 4) = 0 then (if (l0_7.length : Int) ≤ 40 then (some (decide ((wrap64 ((wrap64 (20 + (l0_7.length : Int))) + (l0_8.length : Int))) ≤ 65000))) else (some false)) else (some false)) else (some false)) else (some false)) else (some false)) = some r := H
        have A8 := Aside0.mk A80
        clear A80
        by_cases c9 : t239 = true
        · subst c9
          have H1 : (if a0_4 ≥ 0 then (if a0_4 ≤ 63 then (if ((l0_7.length : Int) % 4) = 0 then (if (l0_7.length : Int) ≤ 40 then (some (decide ((wrap64 ((wrap64 (20 + (l0_7.length : Int))) + (l0_8.length : Int))) ≤ 65000))) else (some false)) else (some false)) else (some false)) else (some false)) = some r := by rw [if_pos rfl] at H; exact H
          clear H
          have H := H1
          clear H1
          by_cases c10 : a0_4 ≥ 0
          · rw [if_pos c10] at H
            have c10b0 : decide (0 ≤ a0_4) = true := decide_eq_true c10
            clear c10
            by_cases c11 : a0_4 ≤ 63
            · rw [if_pos c11] at H
              have c11b0 : decide (a0_4 ≤ 63) = true := decide_eq_true c11
              clear c11
              by_cases c12 : ((l0_7.length : Int) % 4) = 0
              · rw [if_pos c12] at H
                have c12b0 : (((l0_7.length : Int) % 4) == 0) = true := beq_iff_eq.mpr c12
                have c12b1 : (((l0_7.length : Int) % 4) != 0) = false := bne_eq_false_iff_eq.mpr c12
                clear c12
                by_cases c13 : (l0_7.length : Int) ≤ 40
                · rw [if_pos c13] at H
                  have c13b0 : decide ((l0_7.length : Int) ≤ 40) = true := decide_eq_true c13
                  have c13b1 : decide (l0_7.length ≤ 40) = true := decide_eq_true (by omega)
                  clear c13
                  obtain rfl := Option.some.inj H
                  go_enter Try.func38, Try.ntmps38
                  go_wp2_with (first | ((with_reducible refine gate_dst (N := 1) rfl ?_); (try (refine gate_guard (by rfl) ?_; dsimp only)); refine box_event ?hg (N := 1) ?hd (cs := #[.int .i64 a0_0, .int .i64 a0_1, .int .u32 a0_2, .int .u32 a0_3, .int .i64 a0_4, .int .i64 a0_5, .int .i64 a0_6, .slice A0_7 l0_7.length c0_7, .slice A0_8 l0_8.length c0_8]) (t := 27) ?hr ?_; (case hd => rfl); (case hg => rfl); (case hr => first | (go_simp; done) | (go_simp; rfl)); intro gb235 hg w14 hbox hb; have n0_ := Aside0.mk (below_step (by repeat (first | (with_reducible first | exact HB.out | apply below_alloc | apply pw_below_drewN | apply below_drew1) | exact HB.out)) hb); have n1_ := Aside0.mk (hbox); have n2_ := Aside0.mk ((by rw [hg]; exact (below_size (by repeat (first | (with_reducible first | exact HB.out | apply below_alloc | apply pw_below_drewN | apply below_drew1) | exact HB.out))) : w.heap.size ≤ gb235)); have n3_ := Aside0.mk ((by rw [hg]; exact (below_size (by repeat (first | (with_reducible first | exact HB.out | apply below_alloc | apply pw_below_drewN | apply below_drew1) | exact HB.out))) : w.heap.size ≤ gb235)); clear HB; have HB := n0_; have BK235 := n1_; have GW235 := n2_; have GE235 := n3_; clear n0_ n1_ n2_ n3_; clear hb hbox hg; have hcz15_0 : w14.cell? ⟨gb235, 0, none⟩ = some (.int .i64 a0_0) := (blk_cell BK235.out 0).trans rfl; have hcz15_1 : w14.cell? ⟨gb235, 1, none⟩ = some (.int .i64 a0_1) := (blk_cell BK235.out 1).trans rfl; have hcz15_2 : w14.cell? ⟨gb235, 2, none⟩ = some (.int .u32 a0_2) := (blk_cell BK235.out 2).trans rfl; have hcz15_3 : w14.cell? ⟨gb235, 3, none⟩ = some (.int .u32 a0_3) := (blk_cell BK235.out 3).trans rfl; have hcz15_4 : w14.cell? ⟨gb235, 4, none⟩ = some (.int .i64 a0_4) := (blk_cell BK235.out 4).trans rfl; have hcz15_5 : w14.cell? ⟨gb235, 5, none⟩ = some (.int .i64 a0_5) := (blk_cell BK235.out 5).trans rfl; have hcz15_6 : w14.cell? ⟨gb235, 6, none⟩ = some (.int .i64 a0_6) := (blk_cell BK235.out 6).trans rfl; have hcz15_7 : w14.cell? ⟨gb235, 7, none⟩ = some (.slice A0_7 l0_7.length c0_7) := (blk_cell BK235.out 7).trans rfl; have hcz15_8 : w14.cell? ⟨gb235, 8, none⟩ = some (.slice A0_8 l0_8.length c0_8) := (blk_cell BK235.out 8).trans rfl; have hfz15_0 := blk_frozen BK235.out 0; have hfz15_1 := blk_frozen BK235.out 1; have hfz15_2 := blk_frozen BK235.out 2; have hfz15_3 := blk_frozen BK235.out 3; have hfz15_4 := blk_frozen BK235.out 4; have hfz15_5 := blk_frozen BK235.out 5; have hfz15_6 := blk_frozen BK235.out 6; have hfz15_7 := blk_frozen BK235.out 7; have hfz15_8 := blk_frozen BK235.out 8) | ((with_reducible refine gate_callee (f := 59) rfl ?_); refine goesL_ (some 5) rfl rfl Try.func59 (by kernel_rfl) rfl #[.int .i64 a0_0] rfl (by (try simp only [List.map_toArray, List.map_cons, List.map_nil]); first | done | rfl | (simp only [List.length_drop, List.length_take]; rfl)) ?_; (with_reducible refine (castellanref5_half.calls a0_0 true _ A2.out).mono ?_); rintro e w' ⟨rfl, ⟨nd, rfl⟩⟩; refine ⟨_, rfl, ?_⟩) | (go_at_call 59; (with_reducible refine (castellanref5_half.calls a0_1 true _ A4.out).mono ?_); rintro e w' ⟨rfl, ⟨nd, rfl⟩⟩) | (go_at_call 59; (with_reducible refine (castellanref5_half.calls a0_5 true _ A6.out).mono ?_); rintro e w' ⟨rfl, ⟨nd, rfl⟩⟩) | (go_at_call 59; (with_reducible refine (castellanref5_half.calls a0_6 true _ A8.out).mono ?_); rintro e w' ⟨rfl, ⟨nd, rfl⟩⟩))
                  go_ret
                  exact ⟨by first | rfl | (simp [errW_none, errW_some] <;> rfl) | (simp [*, errW_none, errW_some] <;> rfl), by repeat (first | (with_reducible first | exact HB.out | apply below_alloc | apply pw_below_drewN | apply below_drew1 | refine below_set ?_ GE235.out) | exact HB.out)⟩
                · rw [if_neg c13] at H
                  have c13b0 : decide ((l0_7.length : Int) ≤ 40) = false := decide_eq_false c13
                  have c13b1 : decide (l0_7.length ≤ 40) = false := decide_eq_false (by omega)
                  clear c13
                  obtain rfl := Option.some.inj H
                  go_enter Try.func38, Try.ntmps38
                  go_wp2_with (first | ((with_reducible refine gate_dst (N := 1) rfl ?_); (try (refine gate_guard (by rfl) ?_; dsimp only)); refine box_event ?hg (N := 1) ?hd (cs := #[.int .i64 a0_0, .int .i64 a0_1, .int .u32 a0_2, .int .u32 a0_3, .int .i64 a0_4, .int .i64 a0_5, .int .i64 a0_6, .slice A0_7 l0_7.length c0_7, .slice A0_8 l0_8.length c0_8]) (t := 27) ?hr ?_; (case hd => rfl); (case hg => rfl); (case hr => first | (go_simp; done) | (go_simp; rfl)); intro gb235 hg w16 hbox hb; have n0_ := Aside0.mk (below_step (by repeat (first | (with_reducible first | exact HB.out | apply below_alloc | apply pw_below_drewN | apply below_drew1) | exact HB.out)) hb); have n1_ := Aside0.mk (hbox); have n2_ := Aside0.mk ((by rw [hg]; exact (below_size (by repeat (first | (with_reducible first | exact HB.out | apply below_alloc | apply pw_below_drewN | apply below_drew1) | exact HB.out))) : w.heap.size ≤ gb235)); have n3_ := Aside0.mk ((by rw [hg]; exact (below_size (by repeat (first | (with_reducible first | exact HB.out | apply below_alloc | apply pw_below_drewN | apply below_drew1) | exact HB.out))) : w.heap.size ≤ gb235)); clear HB; have HB := n0_; have BK235 := n1_; have GW235 := n2_; have GE235 := n3_; clear n0_ n1_ n2_ n3_; clear hb hbox hg; have hcz17_0 : w16.cell? ⟨gb235, 0, none⟩ = some (.int .i64 a0_0) := (blk_cell BK235.out 0).trans rfl; have hcz17_1 : w16.cell? ⟨gb235, 1, none⟩ = some (.int .i64 a0_1) := (blk_cell BK235.out 1).trans rfl; have hcz17_2 : w16.cell? ⟨gb235, 2, none⟩ = some (.int .u32 a0_2) := (blk_cell BK235.out 2).trans rfl; have hcz17_3 : w16.cell? ⟨gb235, 3, none⟩ = some (.int .u32 a0_3) := (blk_cell BK235.out 3).trans rfl; have hcz17_4 : w16.cell? ⟨gb235, 4, none⟩ = some (.int .i64 a0_4) := (blk_cell BK235.out 4).trans rfl; have hcz17_5 : w16.cell? ⟨gb235, 5, none⟩ = some (.int .i64 a0_5) := (blk_cell BK235.out 5).trans rfl; have hcz17_6 : w16.cell? ⟨gb235, 6, none⟩ = some (.int .i64 a0_6) := (blk_cell BK235.out 6).trans rfl; have hcz17_7 : w16.cell? ⟨gb235, 7, none⟩ = some (.slice A0_7 l0_7.length c0_7) := (blk_cell BK235.out 7).trans rfl; have hcz17_8 : w16.cell? ⟨gb235, 8, none⟩ = some (.slice A0_8 l0_8.length c0_8) := (blk_cell BK235.out 8).trans rfl; have hfz17_0 := blk_frozen BK235.out 0; have hfz17_1 := blk_frozen BK235.out 1; have hfz17_2 := blk_frozen BK235.out 2; have hfz17_3 := blk_frozen BK235.out 3; have hfz17_4 := blk_frozen BK235.out 4; have hfz17_5 := blk_frozen BK235.out 5; have hfz17_6 := blk_frozen BK235.out 6; have hfz17_7 := blk_frozen BK235.out 7; have hfz17_8 := blk_frozen BK235.out 8) | ((with_reducible refine gate_callee (f := 59) rfl ?_); refine goesL_ (some 5) rfl rfl Try.func59 (by kernel_rfl) rfl #[.int .i64 a0_0] rfl (by (try simp only [List.map_toArray, List.map_cons, List.map_nil]); first | done | rfl | (simp only [List.length_drop, List.length_take]; rfl)) ?_; (with_reducible refine (castellanref5_half.calls a0_0 true _ A2.out).mono ?_); rintro e w' ⟨rfl, ⟨nd, rfl⟩⟩; refine ⟨_, rfl, ?_⟩) | (go_at_call 59; (with_reducible refine (castellanref5_half.calls a0_1 true _ A4.out).mono ?_); rintro e w' ⟨rfl, ⟨nd, rfl⟩⟩) | (go_at_call 59; (with_reducible refine (castellanref5_half.calls a0_5 true _ A6.out).mono ?_); rintro e w' ⟨rfl, ⟨nd, rfl⟩⟩) | (go_at_call 59; (with_reducible refine (castellanref5_half.calls a0_6 true _ A8.out).mono ?_); rintro e w' ⟨rfl, ⟨nd, rfl⟩⟩))
                  go_ret
                  exact ⟨by first | rfl | (simp [errW_none, errW_some] <;> rfl) | (simp [*, errW_none, errW_some] <;> rfl), by repeat (first | (with_reducible first | exact HB.out | apply below_alloc | apply pw_below_drewN | apply below_drew1 | refine below_set ?_ GE235.out) | exact HB.out)⟩
              · rw [if_neg c12] at H
                have c12b0 : (((l0_7.length : Int) % 4) == 0) = false := beq_eq_false_iff_ne.mpr c12
                have c12b1 : (((l0_7.length : Int) % 4) != 0) = true := bne_iff_ne.mpr c12
                obtain rfl := Option.some.inj H
                go_enter Try.func38, Try.ntmps38
                go_wp2_with (first | ((with_reducible refine gate_dst (N := 1) rfl ?_); (try (refine gate_guard (by rfl) ?_; dsimp only)); refine box_event ?hg (N := 1) ?hd (cs := #[.int .i64 a0_0, .int .i64 a0_1, .int .u32 a0_2, .int .u32 a0_3, .int .i64 a0_4, .int .i64 a0_5, .int .i64 a0_6, .slice A0_7 l0_7.length c0_7, .slice A0_8 l0_8.length c0_8]) (t := 27) ?hr ?_; (case hd => rfl); (case hg => rfl); (case hr => first | (go_simp; done) | (go_simp; rfl)); intro gb235 hg w18 hbox hb; have n0_ := Aside0.mk (below_step (by repeat (first | (with_reducible first | exact HB.out | apply below_alloc | apply pw_below_drewN | apply below_drew1) | exact HB.out)) hb); have n1_ := Aside0.mk (hbox); have n2_ := Aside0.mk ((by rw [hg]; exact (below_size (by repeat (first | (with_reducible first | exact HB.out | apply below_alloc | apply pw_below_drewN | apply below_drew1) | exact HB.out))) : w.heap.size ≤ gb235)); have n3_ := Aside0.mk ((by rw [hg]; exact (below_size (by repeat (first | (with_reducible first | exact HB.out | apply below_alloc | apply pw_below_drewN | apply below_drew1) | exact HB.out))) : w.heap.size ≤ gb235)); clear HB; have HB := n0_; have BK235 := n1_; have GW235 := n2_; have GE235 := n3_; clear n0_ n1_ n2_ n3_; clear hb hbox hg; have hcz19_0 : w18.cell? ⟨gb235, 0, none⟩ = some (.int .i64 a0_0) := (blk_cell BK235.out 0).trans rfl; have hcz19_1 : w18.cell? ⟨gb235, 1, none⟩ = some (.int .i64 a0_1) := (blk_cell BK235.out 1).trans rfl; have hcz19_2 : w18.cell? ⟨gb235, 2, none⟩ = some (.int .u32 a0_2) := (blk_cell BK235.out 2).trans rfl; have hcz19_3 : w18.cell? ⟨gb235, 3, none⟩ = some (.int .u32 a0_3) := (blk_cell BK235.out 3).trans rfl; have hcz19_4 : w18.cell? ⟨gb235, 4, none⟩ = some (.int .i64 a0_4) := (blk_cell BK235.out 4).trans rfl; have hcz19_5 : w18.cell? ⟨gb235, 5, none⟩ = some (.int .i64 a0_5) := (blk_cell BK235.out 5).trans rfl; have hcz19_6 : w18.cell? ⟨gb235, 6, none⟩ = some (.int .i64 a0_6) := (blk_cell BK235.out 6).trans rfl; have hcz19_7 : w18.cell? ⟨gb235, 7, none⟩ = some (.slice A0_7 l0_7.length c0_7) := (blk_cell BK235.out 7).trans rfl; have hcz19_8 : w18.cell? ⟨gb235, 8, none⟩ = some (.slice A0_8 l0_8.length c0_8) := (blk_cell BK235.out 8).trans rfl; have hfz19_0 := blk_frozen BK235.out 0; have hfz19_1 := blk_frozen BK235.out 1; have hfz19_2 := blk_frozen BK235.out 2; have hfz19_3 := blk_frozen BK235.out 3; have hfz19_4 := blk_frozen BK235.out 4; have hfz19_5 := blk_frozen BK235.out 5; have hfz19_6 := blk_frozen BK235.out 6; have hfz19_7 := blk_frozen BK235.out 7; have hfz19_8 := blk_frozen BK235.out 8) | ((with_reducible refine gate_callee (f := 59) rfl ?_); refine goesL_ (some 5) rfl rfl Try.func59 (by kernel_rfl) rfl #[.int .i64 a0_0] rfl (by (try simp only [List.map_toArray, List.map_cons, List.map_nil]); first | done | rfl | (simp only [List.length_drop, List.length_take]; rfl)) ?_; (with_reducible refine (castellanref5_half.calls a0_0 true _ A2.out).mono ?_); rintro e w' ⟨rfl, ⟨nd, rfl⟩⟩; refine ⟨_, rfl, ?_⟩) | (go_at_call 59; (with_reducible refine (castellanref5_half.calls a0_1 true _ A4.out).mono ?_); rintro e w' ⟨rfl, ⟨nd, rfl⟩⟩) | (go_at_call 59; (with_reducible refine (castellanref5_half.calls a0_5 true _ A6.out).mono ?_); rintro e w' ⟨rfl, ⟨nd, rfl⟩⟩) | (go_at_call 59; (with_reducible refine (castellanref5_half.calls a0_6 true _ A8.out).mono ?_); rintro e w' ⟨rfl, ⟨nd, rfl⟩⟩))
                go_ret
                exact ⟨by first | rfl | (simp [errW_none, errW_some] <;> rfl) | (simp [*, errW_none, errW_some] <;> rfl), by repeat (first | (with_reducible first | exact HB.out | apply below_alloc | apply pw_below_drewN | apply below_drew1 | refine below_set ?_ GE235.out) | exact HB.out)⟩
            · rw [if_neg c11] at H
              have c11b0 : decide (a0_4 ≤ 63) = false := decide_eq_false c11
              clear c11
              obtain rfl := Option.some.inj H
              go_enter Try.func38, Try.ntmps38
              go_wp2_with (first | ((with_reducible refine gate_dst (N := 1) rfl ?_); (try (refine gate_guard (by rfl) ?_; dsimp only)); refine box_event ?hg (N := 1) ?hd (cs := #[.int .i64 a0_0, .int .i64 a0_1, .int .u32 a0_2, .int .u32 a0_3, .int .i64 a0_4, .int .i64 a0_5, .int .i64 a0_6, .slice A0_7 l0_7.length c0_7, .slice A0_8 l0_8.length c0_8]) (t := 27) ?hr ?_; (case hd => rfl); (case hg => rfl); (case hr => first | (go_simp; done) | (go_simp; rfl)); intro gb235 hg w20 hbox hb; have n0_ := Aside0.mk (below_step (by repeat (first | (with_reducible first | exact HB.out | apply below_alloc | apply pw_below_drewN | apply below_drew1) | exact HB.out)) hb); have n1_ := Aside0.mk (hbox); have n2_ := Aside0.mk ((by rw [hg]; exact (below_size (by repeat (first | (with_reducible first | exact HB.out | apply below_alloc | apply pw_below_drewN | apply below_drew1) | exact HB.out))) : w.heap.size ≤ gb235)); have n3_ := Aside0.mk ((by rw [hg]; exact (below_size (by repeat (first | (with_reducible first | exact HB.out | apply below_alloc | apply pw_below_drewN | apply below_drew1) | exact HB.out))) : w.heap.size ≤ gb235)); clear HB; have HB := n0_; have BK235 := n1_; have GW235 := n2_; have GE235 := n3_; clear n0_ n1_ n2_ n3_; clear hb hbox hg; have hcz21_0 : w20.cell? ⟨gb235, 0, none⟩ = some (.int .i64 a0_0) := (blk_cell BK235.out 0).trans rfl; have hcz21_1 : w20.cell? ⟨gb235, 1, none⟩ = some (.int .i64 a0_1) := (blk_cell BK235.out 1).trans rfl; have hcz21_2 : w20.cell? ⟨gb235, 2, none⟩ = some (.int .u32 a0_2) := (blk_cell BK235.out 2).trans rfl; have hcz21_3 : w20.cell? ⟨gb235, 3, none⟩ = some (.int .u32 a0_3) := (blk_cell BK235.out 3).trans rfl; have hcz21_4 : w20.cell? ⟨gb235, 4, none⟩ = some (.int .i64 a0_4) := (blk_cell BK235.out 4).trans rfl; have hcz21_5 : w20.cell? ⟨gb235, 5, none⟩ = some (.int .i64 a0_5) := (blk_cell BK235.out 5).trans rfl; have hcz21_6 : w20.cell? ⟨gb235, 6, none⟩ = some (.int .i64 a0_6) := (blk_cell BK235.out 6).trans rfl; have hcz21_7 : w20.cell? ⟨gb235, 7, none⟩ = some (.slice A0_7 l0_7.length c0_7) := (blk_cell BK235.out 7).trans rfl; have hcz21_8 : w20.cell? ⟨gb235, 8, none⟩ = some (.slice A0_8 l0_8.length c0_8) := (blk_cell BK235.out 8).trans rfl; have hfz21_0 := blk_frozen BK235.out 0; have hfz21_1 := blk_frozen BK235.out 1; have hfz21_2 := blk_frozen BK235.out 2; have hfz21_3 := blk_frozen BK235.out 3; have hfz21_4 := blk_frozen BK235.out 4; have hfz21_5 := blk_frozen BK235.out 5; have hfz21_6 := blk_frozen BK235.out 6; have hfz21_7 := blk_frozen BK235.out 7; have hfz21_8 := blk_frozen BK235.out 8) | ((with_reducible refine gate_callee (f := 59) rfl ?_); refine goesL_ (some 5) rfl rfl Try.func59 (by kernel_rfl) rfl #[.int .i64 a0_0] rfl (by (try simp only [List.map_toArray, List.map_cons, List.map_nil]); first | done | rfl | (simp only [List.length_drop, List.length_take]; rfl)) ?_; (with_reducible refine (castellanref5_half.calls a0_0 true _ A2.out).mono ?_); rintro e w' ⟨rfl, ⟨nd, rfl⟩⟩; refine ⟨_, rfl, ?_⟩) | (go_at_call 59; (with_reducible refine (castellanref5_half.calls a0_1 true _ A4.out).mono ?_); rintro e w' ⟨rfl, ⟨nd, rfl⟩⟩) | (go_at_call 59; (with_reducible refine (castellanref5_half.calls a0_5 true _ A6.out).mono ?_); rintro e w' ⟨rfl, ⟨nd, rfl⟩⟩) | (go_at_call 59; (with_reducible refine (castellanref5_half.calls a0_6 true _ A8.out).mono ?_); rintro e w' ⟨rfl, ⟨nd, rfl⟩⟩))
              go_ret
              exact ⟨by first | rfl | (simp [errW_none, errW_some] <;> rfl) | (simp [*, errW_none, errW_some] <;> rfl), by repeat (first | (with_reducible first | exact HB.out | apply below_alloc | apply pw_below_drewN | apply below_drew1 | refine below_set ?_ GE235.out) | exact HB.out)⟩
          · rw [if_neg c10] at H
            have c10b0 : decide (0 ≤ a0_4) = false := decide_eq_false c10
            clear c10
            obtain rfl := Option.some.inj H
            go_enter Try.func38, Try.ntmps38
            go_wp2_with (first | ((with_reducible refine gate_dst (N := 1) rfl ?_); (try (refine gate_guard (by rfl) ?_; dsimp only)); refine box_event ?hg (N := 1) ?hd (cs := #[.int .i64 a0_0, .int .i64 a0_1, .int .u32 a0_2, .int .u32 a0_3, .int .i64 a0_4, .int .i64 a0_5, .int .i64 a0_6, .slice A0_7 l0_7.length c0_7, .slice A0_8 l0_8.length c0_8]) (t := 27) ?hr ?_; (case hd => rfl); (case hg => rfl); (case hr => first | (go_simp; done) | (go_simp; rfl)); intro gb235 hg w22 hbox hb; have n0_ := Aside0.mk (below_step (by repeat (first | (with_reducible first | exact HB.out | apply below_alloc | apply pw_below_drewN | apply below_drew1) | exact HB.out)) hb); have n1_ := Aside0.mk (hbox); have n2_ := Aside0.mk ((by rw [hg]; exact (below_size (by repeat (first | (with_reducible first | exact HB.out | apply below_alloc | apply pw_below_drewN | apply below_drew1) | exact HB.out))) : w.heap.size ≤ gb235)); have n3_ := Aside0.mk ((by rw [hg]; exact (below_size (by repeat (first | (with_reducible first | exact HB.out | apply below_alloc | apply pw_below_drewN | apply below_drew1) | exact HB.out))) : w.heap.size ≤ gb235)); clear HB; have HB := n0_; have BK235 := n1_; have GW235 := n2_; have GE235 := n3_; clear n0_ n1_ n2_ n3_; clear hb hbox hg; have hcz23_0 : w22.cell? ⟨gb235, 0, none⟩ = some (.int .i64 a0_0) := (blk_cell BK235.out 0).trans rfl; have hcz23_1 : w22.cell? ⟨gb235, 1, none⟩ = some (.int .i64 a0_1) := (blk_cell BK235.out 1).trans rfl; have hcz23_2 : w22.cell? ⟨gb235, 2, none⟩ = some (.int .u32 a0_2) := (blk_cell BK235.out 2).trans rfl; have hcz23_3 : w22.cell? ⟨gb235, 3, none⟩ = some (.int .u32 a0_3) := (blk_cell BK235.out 3).trans rfl; have hcz23_4 : w22.cell? ⟨gb235, 4, none⟩ = some (.int .i64 a0_4) := (blk_cell BK235.out 4).trans rfl; have hcz23_5 : w22.cell? ⟨gb235, 5, none⟩ = some (.int .i64 a0_5) := (blk_cell BK235.out 5).trans rfl; have hcz23_6 : w22.cell? ⟨gb235, 6, none⟩ = some (.int .i64 a0_6) := (blk_cell BK235.out 6).trans rfl; have hcz23_7 : w22.cell? ⟨gb235, 7, none⟩ = some (.slice A0_7 l0_7.length c0_7) := (blk_cell BK235.out 7).trans rfl; have hcz23_8 : w22.cell? ⟨gb235, 8, none⟩ = some (.slice A0_8 l0_8.length c0_8) := (blk_cell BK235.out 8).trans rfl; have hfz23_0 := blk_frozen BK235.out 0; have hfz23_1 := blk_frozen BK235.out 1; have hfz23_2 := blk_frozen BK235.out 2; have hfz23_3 := blk_frozen BK235.out 3; have hfz23_4 := blk_frozen BK235.out 4; have hfz23_5 := blk_frozen BK235.out 5; have hfz23_6 := blk_frozen BK235.out 6; have hfz23_7 := blk_frozen BK235.out 7; have hfz23_8 := blk_frozen BK235.out 8) | ((with_reducible refine gate_callee (f := 59) rfl ?_); refine goesL_ (some 5) rfl rfl Try.func59 (by kernel_rfl) rfl #[.int .i64 a0_0] rfl (by (try simp only [List.map_toArray, List.map_cons, List.map_nil]); first | done | rfl | (simp only [List.length_drop, List.length_take]; rfl)) ?_; (with_reducible refine (castellanref5_half.calls a0_0 true _ A2.out).mono ?_); rintro e w' ⟨rfl, ⟨nd, rfl⟩⟩; refine ⟨_, rfl, ?_⟩) | (go_at_call 59; (with_reducible refine (castellanref5_half.calls a0_1 true _ A4.out).mono ?_); rintro e w' ⟨rfl, ⟨nd, rfl⟩⟩) | (go_at_call 59; (with_reducible refine (castellanref5_half.calls a0_5 true _ A6.out).mono ?_); rintro e w' ⟨rfl, ⟨nd, rfl⟩⟩) | (go_at_call 59; (with_reducible refine (castellanref5_half.calls a0_6 true _ A8.out).mono ?_); rintro e w' ⟨rfl, ⟨nd, rfl⟩⟩))
            go_ret
            exact ⟨by first | rfl | (simp [errW_none, errW_some] <;> rfl) | (simp [*, errW_none, errW_some] <;> rfl), by repeat (first | (with_reducible first | exact HB.out | apply below_alloc | apply pw_below_drewN | apply below_drew1 | refine below_set ?_ GE235.out) | exact HB.out)⟩
        · replace c9 := Bool.eq_false_iff.mpr c9
          subst c9
          have H1 : (some false) = some r := by rw [if_neg (show ¬ (false = true) by decide)] at H; exact H
          clear H
          have H := H1
          clear H1
          obtain rfl := Option.some.inj H
          go_enter Try.func38, Try.ntmps38
          go_wp2_with (first | ((with_reducible refine gate_dst (N := 1) rfl ?_); (try (refine gate_guard (by rfl) ?_; dsimp only)); refine box_event ?hg (N := 1) ?hd (cs := #[.int .i64 a0_0, .int .i64 a0_1, .int .u32 a0_2, .int .u32 a0_3, .int .i64 a0_4, .int .i64 a0_5, .int .i64 a0_6, .slice A0_7 l0_7.length c0_7, .slice A0_8 l0_8.length c0_8]) (t := 27) ?hr ?_; (case hd => rfl); (case hg => rfl); (case hr => first | (go_simp; done) | (go_simp; rfl)); intro gb235 hg w24 hbox hb; have n0_ := Aside0.mk (below_step (by repeat (first | (with_reducible first | exact HB.out | apply below_alloc | apply pw_below_drewN | apply below_drew1) | exact HB.out)) hb); have n1_ := Aside0.mk (hbox); have n2_ := Aside0.mk ((by rw [hg]; exact (below_size (by repeat (first | (with_reducible first | exact HB.out | apply below_alloc | apply pw_below_drewN | apply below_drew1) | exact HB.out))) : w.heap.size ≤ gb235)); have n3_ := Aside0.mk ((by rw [hg]; exact (below_size (by repeat (first | (with_reducible first | exact HB.out | apply below_alloc | apply pw_below_drewN | apply below_drew1) | exact HB.out))) : w.heap.size ≤ gb235)); clear HB; have HB := n0_; have BK235 := n1_; have GW235 := n2_; have GE235 := n3_; clear n0_ n1_ n2_ n3_; clear hb hbox hg; have hcz25_0 : w24.cell? ⟨gb235, 0, none⟩ = some (.int .i64 a0_0) := (blk_cell BK235.out 0).trans rfl; have hcz25_1 : w24.cell? ⟨gb235, 1, none⟩ = some (.int .i64 a0_1) := (blk_cell BK235.out 1).trans rfl; have hcz25_2 : w24.cell? ⟨gb235, 2, none⟩ = some (.int .u32 a0_2) := (blk_cell BK235.out 2).trans rfl; have hcz25_3 : w24.cell? ⟨gb235, 3, none⟩ = some (.int .u32 a0_3) := (blk_cell BK235.out 3).trans rfl; have hcz25_4 : w24.cell? ⟨gb235, 4, none⟩ = some (.int .i64 a0_4) := (blk_cell BK235.out 4).trans rfl; have hcz25_5 : w24.cell? ⟨gb235, 5, none⟩ = some (.int .i64 a0_5) := (blk_cell BK235.out 5).trans rfl; have hcz25_6 : w24.cell? ⟨gb235, 6, none⟩ = some (.int .i64 a0_6) := (blk_cell BK235.out 6).trans rfl; have hcz25_7 : w24.cell? ⟨gb235, 7, none⟩ = some (.slice A0_7 l0_7.length c0_7) := (blk_cell BK235.out 7).trans rfl; have hcz25_8 : w24.cell? ⟨gb235, 8, none⟩ = some (.slice A0_8 l0_8.length c0_8) := (blk_cell BK235.out 8).trans rfl; have hfz25_0 := blk_frozen BK235.out 0; have hfz25_1 := blk_frozen BK235.out 1; have hfz25_2 := blk_frozen BK235.out 2; have hfz25_3 := blk_frozen BK235.out 3; have hfz25_4 := blk_frozen BK235.out 4; have hfz25_5 := blk_frozen BK235.out 5; have hfz25_6 := blk_frozen BK235.out 6; have hfz25_7 := blk_frozen BK235.out 7; have hfz25_8 := blk_frozen BK235.out 8) | ((with_reducible refine gate_callee (f := 59) rfl ?_); refine goesL_ (some 5) rfl rfl Try.func59 (by kernel_rfl) rfl #[.int .i64 a0_0] rfl (by (try simp only [List.map_toArray, List.map_cons, List.map_nil]); first | done | rfl | (simp only [List.length_drop, List.length_take]; rfl)) ?_; (with_reducible refine (castellanref5_half.calls a0_0 true _ A2.out).mono ?_); rintro e w' ⟨rfl, ⟨nd, rfl⟩⟩; refine ⟨_, rfl, ?_⟩) | (go_at_call 59; (with_reducible refine (castellanref5_half.calls a0_1 true _ A4.out).mono ?_); rintro e w' ⟨rfl, ⟨nd, rfl⟩⟩) | (go_at_call 59; (with_reducible refine (castellanref5_half.calls a0_5 true _ A6.out).mono ?_); rintro e w' ⟨rfl, ⟨nd, rfl⟩⟩) | (go_at_call 59; (with_reducible refine (castellanref5_half.calls a0_6 false _ A8.out).mono ?_); rintro e w' ⟨rfl, ⟨nd, rfl⟩⟩))
          go_ret
          exact ⟨by first | rfl | (simp [errW_none, errW_some] <;> rfl) | (simp [*, errW_none, errW_some] <;> rfl), by repeat (first | (with_reducible first | exact HB.out | apply below_alloc | apply pw_below_drewN | apply below_drew1 | refine below_set ?_ GE235.out) | exact HB.out)⟩
      · replace c7 := Bool.eq_false_iff.mpr c7
        subst c7
        have H1 : (some false) = some r := by rw [if_neg (show ¬ (false = true) by decide)] at H; exact H
        clear H
        have H := H1
        clear H1
        obtain rfl := Option.some.inj H
        go_enter Try.func38, Try.ntmps38
        go_wp2_with (first | ((with_reducible refine gate_dst (N := 1) rfl ?_); (try (refine gate_guard (by rfl) ?_; dsimp only)); refine box_event ?hg (N := 1) ?hd (cs := #[.int .i64 a0_0, .int .i64 a0_1, .int .u32 a0_2, .int .u32 a0_3, .int .i64 a0_4, .int .i64 a0_5, .int .i64 a0_6, .slice A0_7 l0_7.length c0_7, .slice A0_8 l0_8.length c0_8]) (t := 27) ?hr ?_; (case hd => rfl); (case hg => rfl); (case hr => first | (go_simp; done) | (go_simp; rfl)); intro gb235 hg w26 hbox hb; have n0_ := Aside0.mk (below_step (by repeat (first | (with_reducible first | exact HB.out | apply below_alloc | apply pw_below_drewN | apply below_drew1) | exact HB.out)) hb); have n1_ := Aside0.mk (hbox); have n2_ := Aside0.mk ((by rw [hg]; exact (below_size (by repeat (first | (with_reducible first | exact HB.out | apply below_alloc | apply pw_below_drewN | apply below_drew1) | exact HB.out))) : w.heap.size ≤ gb235)); have n3_ := Aside0.mk ((by rw [hg]; exact (below_size (by repeat (first | (with_reducible first | exact HB.out | apply below_alloc | apply pw_below_drewN | apply below_drew1) | exact HB.out))) : w.heap.size ≤ gb235)); clear HB; have HB := n0_; have BK235 := n1_; have GW235 := n2_; have GE235 := n3_; clear n0_ n1_ n2_ n3_; clear hb hbox hg; have hcz27_0 : w26.cell? ⟨gb235, 0, none⟩ = some (.int .i64 a0_0) := (blk_cell BK235.out 0).trans rfl; have hcz27_1 : w26.cell? ⟨gb235, 1, none⟩ = some (.int .i64 a0_1) := (blk_cell BK235.out 1).trans rfl; have hcz27_2 : w26.cell? ⟨gb235, 2, none⟩ = some (.int .u32 a0_2) := (blk_cell BK235.out 2).trans rfl; have hcz27_3 : w26.cell? ⟨gb235, 3, none⟩ = some (.int .u32 a0_3) := (blk_cell BK235.out 3).trans rfl; have hcz27_4 : w26.cell? ⟨gb235, 4, none⟩ = some (.int .i64 a0_4) := (blk_cell BK235.out 4).trans rfl; have hcz27_5 : w26.cell? ⟨gb235, 5, none⟩ = some (.int .i64 a0_5) := (blk_cell BK235.out 5).trans rfl; have hcz27_6 : w26.cell? ⟨gb235, 6, none⟩ = some (.int .i64 a0_6) := (blk_cell BK235.out 6).trans rfl; have hcz27_7 : w26.cell? ⟨gb235, 7, none⟩ = some (.slice A0_7 l0_7.length c0_7) := (blk_cell BK235.out 7).trans rfl; have hcz27_8 : w26.cell? ⟨gb235, 8, none⟩ = some (.slice A0_8 l0_8.length c0_8) := (blk_cell BK235.out 8).trans rfl; have hfz27_0 := blk_frozen BK235.out 0; have hfz27_1 := blk_frozen BK235.out 1; have hfz27_2 := blk_frozen BK235.out 2; have hfz27_3 := blk_frozen BK235.out 3; have hfz27_4 := blk_frozen BK235.out 4; have hfz27_5 := blk_frozen BK235.out 5; have hfz27_6 := blk_frozen BK235.out 6; have hfz27_7 := blk_frozen BK235.out 7; have hfz27_8 := blk_frozen BK235.out 8) | ((with_reducible refine gate_callee (f := 59) rfl ?_); refine goesL_ (some 5) rfl rfl Try.func59 (by kernel_rfl) rfl #[.int .i64 a0_0] rfl (by (try simp only [List.map_toArray, List.map_cons, List.map_nil]); first | done | rfl | (simp only [List.length_drop, List.length_take]; rfl)) ?_; (with_reducible refine (castellanref5_half.calls a0_0 true _ A2.out).mono ?_); rintro e w' ⟨rfl, ⟨nd, rfl⟩⟩; refine ⟨_, rfl, ?_⟩) | (go_at_call 59; (with_reducible refine (castellanref5_half.calls a0_1 true _ A4.out).mono ?_); rintro e w' ⟨rfl, ⟨nd, rfl⟩⟩) | (go_at_call 59; (with_reducible refine (castellanref5_half.calls a0_5 false _ A6.out).mono ?_); rintro e w' ⟨rfl, ⟨nd, rfl⟩⟩))
        go_ret
        exact ⟨by first | rfl | (simp [errW_none, errW_some] <;> rfl) | (simp [*, errW_none, errW_some] <;> rfl), by repeat (first | (with_reducible first | exact HB.out | apply below_alloc | apply pw_below_drewN | apply below_drew1 | refine below_set ?_ GE235.out) | exact HB.out)⟩
    · replace c5 := Bool.eq_false_iff.mpr c5
      subst c5
      have H1 : (some false) = some r := by rw [if_neg (show ¬ (false = true) by decide)] at H; exact H
      clear H
      have H := H1
      clear H1
      obtain rfl := Option.some.inj H
      go_enter Try.func38, Try.ntmps38
      go_wp2_with (first | ((with_reducible refine gate_dst (N := 1) rfl ?_); (try (refine gate_guard (by rfl) ?_; dsimp only)); refine box_event ?hg (N := 1) ?hd (cs := #[.int .i64 a0_0, .int .i64 a0_1, .int .u32 a0_2, .int .u32 a0_3, .int .i64 a0_4, .int .i64 a0_5, .int .i64 a0_6, .slice A0_7 l0_7.length c0_7, .slice A0_8 l0_8.length c0_8]) (t := 27) ?hr ?_; (case hd => rfl); (case hg => rfl); (case hr => first | (go_simp; done) | (go_simp; rfl)); intro gb235 hg w28 hbox hb; have n0_ := Aside0.mk (below_step (by repeat (first | (with_reducible first | exact HB.out | apply below_alloc | apply pw_below_drewN | apply below_drew1) | exact HB.out)) hb); have n1_ := Aside0.mk (hbox); have n2_ := Aside0.mk ((by rw [hg]; exact (below_size (by repeat (first | (with_reducible first | exact HB.out | apply below_alloc | apply pw_below_drewN | apply below_drew1) | exact HB.out))) : w.heap.size ≤ gb235)); have n3_ := Aside0.mk ((by rw [hg]; exact (below_size (by repeat (first | (with_reducible first | exact HB.out | apply below_alloc | apply pw_below_drewN | apply below_drew1) | exact HB.out))) : w.heap.size ≤ gb235)); clear HB; have HB := n0_; have BK235 := n1_; have GW235 := n2_; have GE235 := n3_; clear n0_ n1_ n2_ n3_; clear hb hbox hg; have hcz29_0 : w28.cell? ⟨gb235, 0, none⟩ = some (.int .i64 a0_0) := (blk_cell BK235.out 0).trans rfl; have hcz29_1 : w28.cell? ⟨gb235, 1, none⟩ = some (.int .i64 a0_1) := (blk_cell BK235.out 1).trans rfl; have hcz29_2 : w28.cell? ⟨gb235, 2, none⟩ = some (.int .u32 a0_2) := (blk_cell BK235.out 2).trans rfl; have hcz29_3 : w28.cell? ⟨gb235, 3, none⟩ = some (.int .u32 a0_3) := (blk_cell BK235.out 3).trans rfl; have hcz29_4 : w28.cell? ⟨gb235, 4, none⟩ = some (.int .i64 a0_4) := (blk_cell BK235.out 4).trans rfl; have hcz29_5 : w28.cell? ⟨gb235, 5, none⟩ = some (.int .i64 a0_5) := (blk_cell BK235.out 5).trans rfl; have hcz29_6 : w28.cell? ⟨gb235, 6, none⟩ = some (.int .i64 a0_6) := (blk_cell BK235.out 6).trans rfl; have hcz29_7 : w28.cell? ⟨gb235, 7, none⟩ = some (.slice A0_7 l0_7.length c0_7) := (blk_cell BK235.out 7).trans rfl; have hcz29_8 : w28.cell? ⟨gb235, 8, none⟩ = some (.slice A0_8 l0_8.length c0_8) := (blk_cell BK235.out 8).trans rfl; have hfz29_0 := blk_frozen BK235.out 0; have hfz29_1 := blk_frozen BK235.out 1; have hfz29_2 := blk_frozen BK235.out 2; have hfz29_3 := blk_frozen BK235.out 3; have hfz29_4 := blk_frozen BK235.out 4; have hfz29_5 := blk_frozen BK235.out 5; have hfz29_6 := blk_frozen BK235.out 6; have hfz29_7 := blk_frozen BK235.out 7; have hfz29_8 := blk_frozen BK235.out 8) | ((with_reducible refine gate_callee (f := 59) rfl ?_); refine goesL_ (some 5) rfl rfl Try.func59 (by kernel_rfl) rfl #[.int .i64 a0_0] rfl (by (try simp only [List.map_toArray, List.map_cons, List.map_nil]); first | done | rfl | (simp only [List.length_drop, List.length_take]; rfl)) ?_; (with_reducible refine (castellanref5_half.calls a0_0 true _ A2.out).mono ?_); rintro e w' ⟨rfl, ⟨nd, rfl⟩⟩; refine ⟨_, rfl, ?_⟩) | (go_at_call 59; (with_reducible refine (castellanref5_half.calls a0_1 false _ A4.out).mono ?_); rintro e w' ⟨rfl, ⟨nd, rfl⟩⟩))
      go_ret
      exact ⟨by first | rfl | (simp [errW_none, errW_some] <;> rfl) | (simp [*, errW_none, errW_some] <;> rfl), by repeat (first | (with_reducible first | exact HB.out | apply below_alloc | apply pw_below_drewN | apply below_drew1 | refine below_set ?_ GE235.out) | exact HB.out)⟩
  · replace c3 := Bool.eq_false_iff.mpr c3
    subst c3
    have H1 : (some false) = some r := by rw [if_neg (show ¬ (false = true) by decide)] at H; exact H
    clear H
    have H := H1
    clear H1
    obtain rfl := Option.some.inj H
    go_enter Try.func38, Try.ntmps38
    go_wp2_with (first | ((with_reducible refine gate_dst (N := 1) rfl ?_); (try (refine gate_guard (by rfl) ?_; dsimp only)); refine box_event ?hg (N := 1) ?hd (cs := #[.int .i64 a0_0, .int .i64 a0_1, .int .u32 a0_2, .int .u32 a0_3, .int .i64 a0_4, .int .i64 a0_5, .int .i64 a0_6, .slice A0_7 l0_7.length c0_7, .slice A0_8 l0_8.length c0_8]) (t := 27) ?hr ?_; (case hd => rfl); (case hg => rfl); (case hr => first | (go_simp; done) | (go_simp; rfl)); intro gb235 hg w30 hbox hb; have n0_ := Aside0.mk (below_step (by repeat (first | (with_reducible first | exact HB.out | apply below_alloc | apply pw_below_drewN | apply below_drew1) | exact HB.out)) hb); have n1_ := Aside0.mk (hbox); have n2_ := Aside0.mk ((by rw [hg]; exact (below_size (by repeat (first | (with_reducible first | exact HB.out | apply below_alloc | apply pw_below_drewN | apply below_drew1) | exact HB.out))) : w.heap.size ≤ gb235)); have n3_ := Aside0.mk ((by rw [hg]; exact (below_size (by repeat (first | (with_reducible first | exact HB.out | apply below_alloc | apply pw_below_drewN | apply below_drew1) | exact HB.out))) : w.heap.size ≤ gb235)); clear HB; have HB := n0_; have BK235 := n1_; have GW235 := n2_; have GE235 := n3_; clear n0_ n1_ n2_ n3_; clear hb hbox hg; have hcz31_0 : w30.cell? ⟨gb235, 0, none⟩ = some (.int .i64 a0_0) := (blk_cell BK235.out 0).trans rfl; have hcz31_1 : w30.cell? ⟨gb235, 1, none⟩ = some (.int .i64 a0_1) := (blk_cell BK235.out 1).trans rfl; have hcz31_2 : w30.cell? ⟨gb235, 2, none⟩ = some (.int .u32 a0_2) := (blk_cell BK235.out 2).trans rfl; have hcz31_3 : w30.cell? ⟨gb235, 3, none⟩ = some (.int .u32 a0_3) := (blk_cell BK235.out 3).trans rfl; have hcz31_4 : w30.cell? ⟨gb235, 4, none⟩ = some (.int .i64 a0_4) := (blk_cell BK235.out 4).trans rfl; have hcz31_5 : w30.cell? ⟨gb235, 5, none⟩ = some (.int .i64 a0_5) := (blk_cell BK235.out 5).trans rfl; have hcz31_6 : w30.cell? ⟨gb235, 6, none⟩ = some (.int .i64 a0_6) := (blk_cell BK235.out 6).trans rfl; have hcz31_7 : w30.cell? ⟨gb235, 7, none⟩ = some (.slice A0_7 l0_7.length c0_7) := (blk_cell BK235.out 7).trans rfl; have hcz31_8 : w30.cell? ⟨gb235, 8, none⟩ = some (.slice A0_8 l0_8.length c0_8) := (blk_cell BK235.out 8).trans rfl; have hfz31_0 := blk_frozen BK235.out 0; have hfz31_1 := blk_frozen BK235.out 1; have hfz31_2 := blk_frozen BK235.out 2; have hfz31_3 := blk_frozen BK235.out 3; have hfz31_4 := blk_frozen BK235.out 4; have hfz31_5 := blk_frozen BK235.out 5; have hfz31_6 := blk_frozen BK235.out 6; have hfz31_7 := blk_frozen BK235.out 7; have hfz31_8 := blk_frozen BK235.out 8) | ((with_reducible refine gate_callee (f := 59) rfl ?_); refine goesL_ (some 5) rfl rfl Try.func59 (by kernel_rfl) rfl #[.int .i64 a0_0] rfl (by (try simp only [List.map_toArray, List.map_cons, List.map_nil]); first | done | rfl | (simp only [List.length_drop, List.length_take]; rfl)) ?_; (with_reducible refine (castellanref5_half.calls a0_0 false _ A2.out).mono ?_); rintro e w' ⟨rfl, ⟨nd, rfl⟩⟩; refine ⟨_, rfl, ?_⟩))
    go_ret
    exact ⟨by first | rfl | (simp [errW_none, errW_some] <;> rfl) | (simp [*, errW_none, errW_some] <;> rfl), by repeat (first | (with_reducible first | exact HB.out | apply below_alloc | apply pw_below_drewN | apply below_drew1 | refine below_set ?_ GE235.out) | exact HB.out)⟩

/-! ### castellanlaw5_TcpCut: function 13 -/
mutual
def castellanlaw5_TcpCut.j0 : Nat → Int → Bool → Int → Int → Int → Int → Int → Int → Int → List Int → List Int → Option (Bool)
  | 0, _, _, _, _, _, _, _, _, _, _, _ => none
  | k + 1, x1, x17, x241000, x241001, x241002, x241003, x241004, x241005, x241006, x241007, x241008 => if x17 = true then (some true) else ((tcp_Build.f k 1 2 x241000 x241001 x241002 x241003 x241004 x241005 x241006 x241007 x241008).bind fun bt243 => (if bt243.2 = 0 then (castellanlaw5_TcpCut.j1 k x1 bt243.1 (decide ((bt243.1.length : Int) < 20)) x241000 x241001 x241002 x241003 x241004 x241005 x241006 x241007 x241008) else (castellanlaw5_TcpCut.j1 k x1 bt243.1 true x241000 x241001 x241002 x241003 x241004 x241005 x241006 x241007 x241008)))
def castellanlaw5_TcpCut.j1 : Nat → Int → List Int → Bool → Int → Int → Int → Int → Int → Int → Int → List Int → List Int → Option (Bool)
  | 0, _, _, _, _, _, _, _, _, _, _, _, _ => none
  | k + 1, x1, x5, x29, x241000, x241001, x241002, x241003, x241004, x241005, x241006, x241007, x241008 => if x29 = true then (some false) else (if (x5.length : Int) = 0 then (none) else (if 0 ≤ (Int.tmod (Go.bits .and .i64 x1 65535) (x5.length : Int)) then (if (Int.tmod (Go.bits .and .i64 x1 65535) (x5.length : Int)) ≤ (x5.length : Int) then ((tcp_Parse.f k (x5.take ((Int.tmod (Go.bits .and .i64 x1 65535) (x5.length : Int)) : Int).toNat)).bind fun bt251 => (if (Int.tmod (Go.bits .and .i64 x1 65535) (x5.length : Int)) < (wrap64 (20 + (x241007.length : Int))) then (if bt251.2.2.2.2.2.2.2.2.2 = 3 then ((castellanlaw5_known.f k).bind fun t266 => (some t266)) else (some false)) else (if bt251.2.2.2.2.2.2.2.2.2 = 0 then (if (bt251.2.2.2.2.2.2.2.2.1.length : Int) = (wrap64 ((Int.tmod (Go.bits .and .i64 x1 65535) (x5.length : Int)) - (wrap64 (20 + (x241007.length : Int))))) then ((castellanlaw5_known.f k).bind fun t267 => (some t267)) else (some false)) else (some false)))) else (none)) else (none)))
end
def castellanlaw5_TcpCut.f (k : Nat) (a0_0 : Int) (a0_1 : Int) (a0_2 : Int) (a0_3 : Int) (a0_4 : Int) (a0_5 : Int) (a0_6 : Int) (l0_7 : List Int) (l0_8 : List Int) (a1 : Int) : Option (Bool) := (castellanlaw5_long.f a0_0 a0_1 a0_2 a0_3 a0_4 a0_5 a0_6 l0_7 l0_8).bind fun t241 => (if t241 = true then (castellanlaw5_TcpCut.j0 k a1 true a0_0 a0_1 a0_2 a0_3 a0_4 a0_5 a0_6 l0_7 l0_8) else ((castellanref5_Is.f a0_0 a0_1 a0_2 a0_3 a0_4 a0_5 a0_6 l0_7 l0_8).bind fun t242 => (castellanlaw5_TcpCut.j0 k a1 (!t242) a0_0 a0_1 a0_2 a0_3 a0_4 a0_5 a0_6 l0_7 l0_8)))
theorem castellanlaw5_TcpCut.mono_l : ∀ k, (∀ y0 y1 y2 y3 y4 y5 y6 y7 y8 y9 y10, LeO (castellanlaw5_TcpCut.j0 k y0 y1 y2 y3 y4 y5 y6 y7 y8 y9 y10) (castellanlaw5_TcpCut.j0 (k + 1) y0 y1 y2 y3 y4 y5 y6 y7 y8 y9 y10)) ∧ (∀ y0 y1 y2 y3 y4 y5 y6 y7 y8 y9 y10 y11, LeO (castellanlaw5_TcpCut.j1 k y0 y1 y2 y3 y4 y5 y6 y7 y8 y9 y10 y11) (castellanlaw5_TcpCut.j1 (k + 1) y0 y1 y2 y3 y4 y5 y6 y7 y8 y9 y10 y11))
  | 0 => ⟨fun _ _ _ _ _ _ _ _ _ _ _ r h => by simp [castellanlaw5_TcpCut.j0] at h, fun _ _ _ _ _ _ _ _ _ _ _ _ r h => by simp [castellanlaw5_TcpCut.j1] at h⟩
  | k + 1 => by
    obtain ⟨ih0, ih1⟩ := castellanlaw5_TcpCut.mono_l k
    refine ⟨?_, ?_⟩
    · intro y0 y1 y2 y3 y4 y5 y6 y7 y8 y9 y10
      unfold castellanlaw5_TcpCut.j0
      repeat' first
      | (with_reducible exact ih0 _ _ _ _ _ _ _ _ _ _ _)
      | (with_reducible exact ih1 _ _ _ _ _ _ _ _ _ _ _ _)
      | (with_reducible exact castellanlaw5_known.mono _)
      | (with_reducible exact tcp_Build.mono _ _ _ _ _ _ _ _ _ _ _ _)
      | (with_reducible exact tcp_Parse.mono _ _)
      | (with_reducible exact LeO.refl _)
      | (with_reducible exact LeO.none _)
      | (with_reducible refine LeO.ite ?_ ?_)
      | (with_reducible refine LeO.bind ?_ (fun _ => ?_))
      | exact ih0 _ _ _ _ _ _ _ _ _ _ _
      | exact ih1 _ _ _ _ _ _ _ _ _ _ _ _
      | exact castellanlaw5_known.mono _
      | exact tcp_Build.mono _ _ _ _ _ _ _ _ _ _ _ _
      | exact tcp_Parse.mono _ _
      | exact LeO.none _
      | refine LeO.ite ?_ ?_
      | refine LeO.bind ?_ (fun _ => ?_)
    · intro y0 y1 y2 y3 y4 y5 y6 y7 y8 y9 y10 y11
      unfold castellanlaw5_TcpCut.j1
      repeat' first
      | (with_reducible exact ih0 _ _ _ _ _ _ _ _ _ _ _)
      | (with_reducible exact ih1 _ _ _ _ _ _ _ _ _ _ _ _)
      | (with_reducible exact castellanlaw5_known.mono _)
      | (with_reducible exact tcp_Build.mono _ _ _ _ _ _ _ _ _ _ _ _)
      | (with_reducible exact tcp_Parse.mono _ _)
      | (with_reducible exact LeO.refl _)
      | (with_reducible exact LeO.none _)
      | (with_reducible refine LeO.ite ?_ ?_)
      | (with_reducible refine LeO.bind ?_ (fun _ => ?_))
      | exact ih0 _ _ _ _ _ _ _ _ _ _ _
      | exact ih1 _ _ _ _ _ _ _ _ _ _ _ _
      | exact castellanlaw5_known.mono _
      | exact tcp_Build.mono _ _ _ _ _ _ _ _ _ _ _ _
      | exact tcp_Parse.mono _ _
      | exact LeO.none _
      | refine LeO.ite ?_ ?_
      | refine LeO.bind ?_ (fun _ => ?_)
theorem castellanlaw5_TcpCut.mono : ∀ a0 a1 a2 a3 a4 a5 a6 a7 a8 a9 k, LeO (castellanlaw5_TcpCut.f k a0 a1 a2 a3 a4 a5 a6 a7 a8 a9) (castellanlaw5_TcpCut.f (k + 1) a0 a1 a2 a3 a4 a5 a6 a7 a8 a9) := by
  intro a0 a1 a2 a3 a4 a5 a6 a7 a8 a9 k
  obtain ⟨ih0, ih1⟩ := castellanlaw5_TcpCut.mono_l k
  unfold castellanlaw5_TcpCut.f
  repeat' first
      | (with_reducible exact ih0 _ _ _ _ _ _ _ _ _ _ _)
      | (with_reducible exact ih1 _ _ _ _ _ _ _ _ _ _ _ _)
      | (with_reducible exact castellanlaw5_known.mono _)
      | (with_reducible exact tcp_Build.mono _ _ _ _ _ _ _ _ _ _ _ _)
      | (with_reducible exact tcp_Parse.mono _ _)
      | (with_reducible exact LeO.refl _)
      | (with_reducible exact LeO.none _)
      | (with_reducible refine LeO.ite ?_ ?_)
      | (with_reducible refine LeO.bind ?_ (fun _ => ?_))
      | exact ih0 _ _ _ _ _ _ _ _ _ _ _
      | exact ih1 _ _ _ _ _ _ _ _ _ _ _ _
      | exact castellanlaw5_known.mono _
      | exact tcp_Build.mono _ _ _ _ _ _ _ _ _ _ _ _
      | exact tcp_Parse.mono _ _
      | exact LeO.none _
      | refine LeO.ite ?_ ?_
      | refine LeO.bind ?_ (fun _ => ?_)
set_option maxHeartbeats 8000000 in
set_option maxRecDepth 100000 in
theorem castellanlaw5_TcpCut.calls (k : Nat) (a0_0 : Int) (a0_1 : Int) (a0_2 : Int) (a0_3 : Int) (a0_4 : Int) (a0_5 : Int) (a0_6 : Int) (A0_7 : Option Addr) (c0_7 : Nat) (l0_7 : List Int) (A0_8 : Option Addr) (c0_8 : Nat) (l0_8 : List Int) (a1 : Int) (r : Bool) (w : World) (hr0_7 : Kd.C (Kd.int .u8) w A0_7 l0_7.length l0_7) (hc0_7 : l0_7.length ≤ c0_7) (hr0_8 : Kd.C (Kd.int .u8) w A0_8 l0_8.length l0_8) (hc0_8 : l0_8.length ≤ c0_8) (hrt : r = true) (h : castellanlaw5_TcpCut.f k a0_0 a0_1 a0_2 a0_3 a0_4 a0_5 a0_6 l0_7 l0_8 a1 = some r) :
    Calls Try.prog 13 #[.agg #[.int .i64 a0_0, .int .i64 a0_1, .int .u32 a0_2, .int .u32 a0_3, .int .i64 a0_4, .int .i64 a0_5, .int .i64 a0_6, .slice A0_7 l0_7.length c0_7, .slice A0_8 l0_8.length c0_8], .int .i64 a1] w fun e w' => e = .returned (.bool r) ∧ Below w.heap.size w w' := by
  have hu27 := Try.underlying27
  have HRT := Aside0.mk hrt
  clear hrt
  have HR0_7 := Aside0.mk hr0_7
  have HC0_7 := Aside0.mk hc0_7
  clear hr0_7 hc0_7
  have HR0_8 := Aside0.mk hr0_8
  have HC0_8 := Aside0.mk hc0_8
  clear hr0_8 hc0_8
  have HB := Aside0.mk (Below.refl w.heap.size w)
  have H : ((castellanlaw5_long.f a0_0 a0_1 a0_2 a0_3 a0_4 a0_5 a0_6 l0_7 l0_8).bind fun t241 => (if t241 = true then (castellanlaw5_TcpCut.j0 k a1 true a0_0 a0_1 a0_2 a0_3 a0_4 a0_5 a0_6 l0_7 l0_8) else ((castellanref5_Is.f a0_0 a0_1 a0_2 a0_3 a0_4 a0_5 a0_6 l0_7 l0_8).bind fun t242 => (castellanlaw5_TcpCut.j0 k a1 (!t242) a0_0 a0_1 a0_2 a0_3 a0_4 a0_5 a0_6 l0_7 l0_8)))) = some r := h
  clear h
  have HC3 := Aside0.mk H
  clear H
  go_enter Try.func13, Try.ntmps13
  go_upto_region 1 with (first | ((with_reducible refine gate_dst (N := 2) rfl ?_); (try (refine gate_guard (by rfl) ?_; dsimp only)); refine box_event ?hg (N := 2) ?hd (cs := #[.int .i64 a0_0, .int .i64 a0_1, .int .u32 a0_2, .int .u32 a0_3, .int .i64 a0_4, .int .i64 a0_5, .int .i64 a0_6, .slice A0_7 l0_7.length c0_7, .slice A0_8 l0_8.length c0_8]) (t := 27) ?hr ?_; (case hd => rfl); (case hg => rfl); (case hr => first | (go_simp; done) | (go_simp; rfl)); intro gb240 hg w4 hbox hb; have n0_ := Aside0.mk (below_step (by repeat (first | (with_reducible first | exact HB.out | apply below_alloc | apply pw_below_drewN | apply below_drew1) | exact HB.out)) hb); have n1_ := Aside0.mk (hbox); have n2_ := Aside0.mk ((by rw [hg]; exact (below_size (by repeat (first | (with_reducible first | exact HB.out | apply below_alloc | apply pw_below_drewN | apply below_drew1) | exact HB.out))) : w.heap.size ≤ gb240)); have n3_ := Aside0.mk ((by rw [hg]; exact (below_size (by repeat (first | (with_reducible first | exact HB.out | apply below_alloc | apply pw_below_drewN | apply below_drew1) | exact HB.out))) : w.heap.size ≤ gb240)); clear HB; have HB := n0_; have BK240 := n1_; have GW240 := n2_; have GE240 := n3_; clear n0_ n1_ n2_ n3_; clear hb hbox hg))
  (try simp only [Act.put, List.setIfInBounds_toArray, List.set_cons_zero, List.set_cons_succ])
  go_cut [17] (fun v17 wc => ∃ (kq : Nat) (x17_2 : Bool), v17 = .bool x17_2 ∧ Aside0 (castellanlaw5_TcpCut.j0 kq a1 x17_2 a0_0 a0_1 a0_2 a0_3 a0_4 a0_5 a0_6 l0_7 l0_8 = some r) ∧ Aside0 (kq ≤ k) ∧ Aside0 (wc.heap[gb240]? = some (.cells #[.int .i64 a0_0, .int .i64 a0_1, .int .u32 a0_2, .int .u32 a0_3, .int .i64 a0_4, .int .i64 a0_5, .int .i64 a0_6, (.slice A0_7 l0_7.length c0_7), (.slice A0_8 l0_8.length c0_8)] 27 (0, 0))) ∧ Aside0 (Below w.heap.size w wc))
  case first =>
    have H := HC3.out
    clear HC3
    replace H := Option.bind_eq_some_iff.mp H
    obtain ⟨t241, A50, H⟩ := H
    replace H : (if t241 = true then (castellanlaw5_TcpCut.j0 k a1 true a0_0 a0_1 a0_2 a0_3 a0_4 a0_5 a0_6 l0_7 l0_8) else ((castellanref5_Is.f a0_0 a0_1 a0_2 a0_3 a0_4 a0_5 a0_6 l0_7 l0_8).bind fun t242 => (castellanlaw5_TcpCut.j0 k a1 (!t242) a0_0 a0_1 a0_2 a0_3 a0_4 a0_5 a0_6 l0_7 l0_8))) = some r := H
    have A5 := Aside0.mk A50
    clear A50
    by_cases c6 : t241 = true
    · subst c6
      have H1 : (castellanlaw5_TcpCut.j0 k a1 true a0_0 a0_1 a0_2 a0_3 a0_4 a0_5 a0_6 l0_7 l0_8) = some r := by rw [if_pos rfl] at H; exact H
      clear H
      have H := H1
      clear H1
      have H' := Aside0.mk H
      clear H
      have hcz7_0 : w4.cell? ⟨gb240, 0, none⟩ = some (.int .i64 a0_0) := (blk_cell BK240.out 0).trans rfl
      have hcz7_1 : w4.cell? ⟨gb240, 1, none⟩ = some (.int .i64 a0_1) := (blk_cell BK240.out 1).trans rfl
      have hcz7_2 : w4.cell? ⟨gb240, 2, none⟩ = some (.int .u32 a0_2) := (blk_cell BK240.out 2).trans rfl
      have hcz7_3 : w4.cell? ⟨gb240, 3, none⟩ = some (.int .u32 a0_3) := (blk_cell BK240.out 3).trans rfl
      have hcz7_4 : w4.cell? ⟨gb240, 4, none⟩ = some (.int .i64 a0_4) := (blk_cell BK240.out 4).trans rfl
      have hcz7_5 : w4.cell? ⟨gb240, 5, none⟩ = some (.int .i64 a0_5) := (blk_cell BK240.out 5).trans rfl
      have hcz7_6 : w4.cell? ⟨gb240, 6, none⟩ = some (.int .i64 a0_6) := (blk_cell BK240.out 6).trans rfl
      have hcz7_7 : w4.cell? ⟨gb240, 7, none⟩ = some (.slice A0_7 l0_7.length c0_7) := (blk_cell BK240.out 7).trans rfl
      have hcz7_8 : w4.cell? ⟨gb240, 8, none⟩ = some (.slice A0_8 l0_8.length c0_8) := (blk_cell BK240.out 8).trans rfl
      have hfz7_0 := blk_frozen BK240.out 0
      have hfz7_1 := blk_frozen BK240.out 1
      have hfz7_2 := blk_frozen BK240.out 2
      have hfz7_3 := blk_frozen BK240.out 3
      have hfz7_4 := blk_frozen BK240.out 4
      have hfz7_5 := blk_frozen BK240.out 5
      have hfz7_6 := blk_frozen BK240.out 6
      have hfz7_7 := blk_frozen BK240.out 7
      have hfz7_8 := blk_frozen BK240.out 8
      go_wp2_with (first | ((with_reducible refine gate_callee (f := 17) rfl ?_); refine goesL_ (some 12) rfl rfl Try.func17 (by kernel_rfl) rfl #[.agg #[.int .i64 a0_0, .int .i64 a0_1, .int .u32 a0_2, .int .u32 a0_3, .int .i64 a0_4, .int .i64 a0_5, .int .i64 a0_6, .slice A0_7 l0_7.length c0_7, .slice A0_8 l0_8.length c0_8]] rfl (by (try simp only [List.map_toArray, List.map_cons, List.map_nil]); first | done | rfl | (simp only [List.length_drop, List.length_take]; rfl)) ?_; (with_reducible refine (castellanlaw5_long.calls a0_0 a0_1 a0_2 a0_3 a0_4 a0_5 a0_6 _ _ l0_7 _ _ l0_8 true _ ?side1 ?side2 ?side3 ?side4 A5.out).mono ?_); (case side1 => repeat (first | exact (Kd.C_below HR0_7.out HB.out) | (with_reducible refine Kd.C_alloc ?_ _) | (with_reducible refine Kd.C_drewN ?_ _) | (with_reducible refine Kd.C_drew ?_))); (case side2 => exact HC0_7.out); (case side3 => repeat (first | exact (Kd.C_below HR0_8.out HB.out) | (with_reducible refine Kd.C_alloc ?_ _) | (with_reducible refine Kd.C_drewN ?_ _) | (with_reducible refine Kd.C_drew ?_))); (case side4 => exact HC0_8.out); rintro e w8 ⟨rfl, hb⟩; refine ⟨_, rfl, ?_⟩; have n0_ := Aside0.mk (blk_below (g := gb240) (o := .cells #[.int .i64 a0_0, .int .i64 a0_1, .int .u32 a0_2, .int .u32 a0_3, .int .i64 a0_4, .int .i64 a0_5, .int .i64 a0_6, .slice A0_7 l0_7.length c0_7, .slice A0_8 l0_8.length c0_8] 27 (0, 0)) (by (with_reducible repeat (first | refine blk_drewN ?_ _ | refine blk_drew ?_ | refine blk_alloc ?_ _)); exact BK240.out) hb); have n1_ := Aside0.mk (below_step (by repeat (first | (with_reducible first | exact HB.out | apply below_alloc | apply pw_below_drewN | apply below_drew1 | refine below_set ?_ GE240.out) | exact HB.out)) hb); clear BK240; clear HB; have BK240 := n0_; have HB := n1_; clear n0_ n1_; (try clear hb); (try clear hb2); (try clear hk); (try clear hi)))
      go_meet
      case rel => exact ⟨_, (true), (by first | rfl | (simp; done) | (simp [*]; done)), H', ⟨by first | omega | exact Nat.le_refl _⟩, ⟨by (with_reducible repeat (first | refine blk_drewN ?_ _ | refine blk_drew ?_ | refine blk_alloc ?_ _)); exact BK240.out⟩, ⟨by repeat (first | (with_reducible first | exact HB.out | apply below_alloc | apply pw_below_drewN | apply below_drew1 | refine below_set ?_ GE240.out) | exact HB.out)⟩⟩
    · replace c6 := Bool.eq_false_iff.mpr c6
      subst c6
      have H1 : ((castellanref5_Is.f a0_0 a0_1 a0_2 a0_3 a0_4 a0_5 a0_6 l0_7 l0_8).bind fun t242 => (castellanlaw5_TcpCut.j0 k a1 (!t242) a0_0 a0_1 a0_2 a0_3 a0_4 a0_5 a0_6 l0_7 l0_8)) = some r := by rw [if_neg (show ¬ (false = true) by decide)] at H; exact H
      clear H
      have H := H1
      clear H1
      replace H := Option.bind_eq_some_iff.mp H
      obtain ⟨t242, A90, H⟩ := H
      replace H : (castellanlaw5_TcpCut.j0 k a1 (!t242) a0_0 a0_1 a0_2 a0_3 a0_4 a0_5 a0_6 l0_7 l0_8) = some r := H
      have A9 := Aside0.mk A90
      clear A90
      have H' := Aside0.mk H
      clear H
      have hcz10_0 : w4.cell? ⟨gb240, 0, none⟩ = some (.int .i64 a0_0) := (blk_cell BK240.out 0).trans rfl
      have hcz10_1 : w4.cell? ⟨gb240, 1, none⟩ = some (.int .i64 a0_1) := (blk_cell BK240.out 1).trans rfl
      have hcz10_2 : w4.cell? ⟨gb240, 2, none⟩ = some (.int .u32 a0_2) := (blk_cell BK240.out 2).trans rfl
      have hcz10_3 : w4.cell? ⟨gb240, 3, none⟩ = some (.int .u32 a0_3) := (blk_cell BK240.out 3).trans rfl
      have hcz10_4 : w4.cell? ⟨gb240, 4, none⟩ = some (.int .i64 a0_4) := (blk_cell BK240.out 4).trans rfl
      have hcz10_5 : w4.cell? ⟨gb240, 5, none⟩ = some (.int .i64 a0_5) := (blk_cell BK240.out 5).trans rfl
      have hcz10_6 : w4.cell? ⟨gb240, 6, none⟩ = some (.int .i64 a0_6) := (blk_cell BK240.out 6).trans rfl
      have hcz10_7 : w4.cell? ⟨gb240, 7, none⟩ = some (.slice A0_7 l0_7.length c0_7) := (blk_cell BK240.out 7).trans rfl
      have hcz10_8 : w4.cell? ⟨gb240, 8, none⟩ = some (.slice A0_8 l0_8.length c0_8) := (blk_cell BK240.out 8).trans rfl
      have hfz10_0 := blk_frozen BK240.out 0
      have hfz10_1 := blk_frozen BK240.out 1
      have hfz10_2 := blk_frozen BK240.out 2
      have hfz10_3 := blk_frozen BK240.out 3
      have hfz10_4 := blk_frozen BK240.out 4
      have hfz10_5 := blk_frozen BK240.out 5
      have hfz10_6 := blk_frozen BK240.out 6
      have hfz10_7 := blk_frozen BK240.out 7
      have hfz10_8 := blk_frozen BK240.out 8
      go_wp2_with (first | ((with_reducible refine gate_callee (f := 17) rfl ?_); refine goesL_ (some 12) rfl rfl Try.func17 (by kernel_rfl) rfl #[.agg #[.int .i64 a0_0, .int .i64 a0_1, .int .u32 a0_2, .int .u32 a0_3, .int .i64 a0_4, .int .i64 a0_5, .int .i64 a0_6, .slice A0_7 l0_7.length c0_7, .slice A0_8 l0_8.length c0_8]] rfl (by (try simp only [List.map_toArray, List.map_cons, List.map_nil]); first | done | rfl | (simp only [List.length_drop, List.length_take]; rfl)) ?_; (with_reducible refine (castellanlaw5_long.calls a0_0 a0_1 a0_2 a0_3 a0_4 a0_5 a0_6 _ _ l0_7 _ _ l0_8 false _ ?side1 ?side2 ?side3 ?side4 A5.out).mono ?_); (case side1 => repeat (first | exact (Kd.C_below HR0_7.out HB.out) | (with_reducible refine Kd.C_alloc ?_ _) | (with_reducible refine Kd.C_drewN ?_ _) | (with_reducible refine Kd.C_drew ?_))); (case side2 => exact HC0_7.out); (case side3 => repeat (first | exact (Kd.C_below HR0_8.out HB.out) | (with_reducible refine Kd.C_alloc ?_ _) | (with_reducible refine Kd.C_drewN ?_ _) | (with_reducible refine Kd.C_drew ?_))); (case side4 => exact HC0_8.out); rintro e w11 ⟨rfl, hb⟩; refine ⟨_, rfl, ?_⟩; have n0_ := Aside0.mk (blk_below (g := gb240) (o := .cells #[.int .i64 a0_0, .int .i64 a0_1, .int .u32 a0_2, .int .u32 a0_3, .int .i64 a0_4, .int .i64 a0_5, .int .i64 a0_6, .slice A0_7 l0_7.length c0_7, .slice A0_8 l0_8.length c0_8] 27 (0, 0)) (by (with_reducible repeat (first | refine blk_drewN ?_ _ | refine blk_drew ?_ | refine blk_alloc ?_ _)); exact BK240.out) hb); have n1_ := Aside0.mk (below_step (by repeat (first | (with_reducible first | exact HB.out | apply below_alloc | apply pw_below_drewN | apply below_drew1 | refine below_set ?_ GE240.out) | exact HB.out)) hb); clear BK240; clear HB; have BK240 := n0_; have HB := n1_; clear n0_ n1_; (try clear hb); (try clear hb2); (try clear hk); (try clear hi); have hcz12_0 : w11.cell? ⟨gb240, 0, none⟩ = some (.int .i64 a0_0) := (blk_cell BK240.out 0).trans rfl; have hcz12_1 : w11.cell? ⟨gb240, 1, none⟩ = some (.int .i64 a0_1) := (blk_cell BK240.out 1).trans rfl; have hcz12_2 : w11.cell? ⟨gb240, 2, none⟩ = some (.int .u32 a0_2) := (blk_cell BK240.out 2).trans rfl; have hcz12_3 : w11.cell? ⟨gb240, 3, none⟩ = some (.int .u32 a0_3) := (blk_cell BK240.out 3).trans rfl; have hcz12_4 : w11.cell? ⟨gb240, 4, none⟩ = some (.int .i64 a0_4) := (blk_cell BK240.out 4).trans rfl; have hcz12_5 : w11.cell? ⟨gb240, 5, none⟩ = some (.int .i64 a0_5) := (blk_cell BK240.out 5).trans rfl; have hcz12_6 : w11.cell? ⟨gb240, 6, none⟩ = some (.int .i64 a0_6) := (blk_cell BK240.out 6).trans rfl; have hcz12_7 : w11.cell? ⟨gb240, 7, none⟩ = some (.slice A0_7 l0_7.length c0_7) := (blk_cell BK240.out 7).trans rfl; have hcz12_8 : w11.cell? ⟨gb240, 8, none⟩ = some (.slice A0_8 l0_8.length c0_8) := (blk_cell BK240.out 8).trans rfl; have hfz12_0 := blk_frozen BK240.out 0; have hfz12_1 := blk_frozen BK240.out 1; have hfz12_2 := blk_frozen BK240.out 2; have hfz12_3 := blk_frozen BK240.out 3; have hfz12_4 := blk_frozen BK240.out 4; have hfz12_5 := blk_frozen BK240.out 5; have hfz12_6 := blk_frozen BK240.out 6; have hfz12_7 := blk_frozen BK240.out 7; have hfz12_8 := blk_frozen BK240.out 8) | (go_at_call 38; (with_reducible refine (castellanref5_Is.calls a0_0 a0_1 a0_2 a0_3 a0_4 a0_5 a0_6 _ _ l0_7 _ _ l0_8 t242 _ ?side1 ?side2 ?side3 ?side4 A9.out).mono ?_); (case side1 => repeat (first | exact (Kd.C_below HR0_7.out HB.out) | (with_reducible refine Kd.C_alloc ?_ _) | (with_reducible refine Kd.C_drewN ?_ _) | (with_reducible refine Kd.C_drew ?_))); (case side2 => exact HC0_7.out); (case side3 => repeat (first | exact (Kd.C_below HR0_8.out HB.out) | (with_reducible refine Kd.C_alloc ?_ _) | (with_reducible refine Kd.C_drewN ?_ _) | (with_reducible refine Kd.C_drew ?_))); (case side4 => exact HC0_8.out); rintro e w13 ⟨rfl, hb⟩; have n0_ := Aside0.mk (blk_below (g := gb240) (o := .cells #[.int .i64 a0_0, .int .i64 a0_1, .int .u32 a0_2, .int .u32 a0_3, .int .i64 a0_4, .int .i64 a0_5, .int .i64 a0_6, .slice A0_7 l0_7.length c0_7, .slice A0_8 l0_8.length c0_8] 27 (0, 0)) (by (with_reducible repeat (first | refine blk_drewN ?_ _ | refine blk_drew ?_ | refine blk_alloc ?_ _)); exact BK240.out) hb); have n1_ := Aside0.mk (below_step (by repeat (first | (with_reducible first | exact HB.out | apply below_alloc | apply pw_below_drewN | apply below_drew1 | refine below_set ?_ GE240.out) | exact HB.out)) hb); clear BK240; clear HB; have BK240 := n0_; have HB := n1_; clear n0_ n1_; (try clear hb); (try clear hb2); (try clear hk); (try clear hi)))
      go_meet
      case rel => exact ⟨_, (!t242), (by first | rfl | (simp; done) | (simp [*]; done)), H', ⟨by first | omega | exact Nat.le_refl _⟩, ⟨by (with_reducible repeat (first | refine blk_drewN ?_ _ | refine blk_drew ?_ | refine blk_alloc ?_ _)); exact BK240.out⟩, ⟨by repeat (first | (with_reducible first | exact HB.out | apply below_alloc | apply pw_below_drewN | apply below_drew1 | refine below_set ?_ GE240.out) | exact HB.out)⟩⟩
  case rest =>
    clear HC3
    try clear c1
    try clear p2
    try clear c6
    try clear c13
    try clear hcz10_0
    try clear hcz10_1
    try clear hcz10_2
    try clear hcz10_3
    try clear hcz10_4
    try clear hcz10_5
    try clear hcz10_6
    try clear hcz10_7
    try clear hcz10_8
    try clear hcz12_0
    try clear hcz12_1
    try clear hcz12_2
    try clear hcz12_3
    try clear hcz12_4
    try clear hcz12_5
    try clear hcz12_6
    try clear hcz12_7
    try clear hcz12_8
    try clear hcz7_0
    try clear hcz7_1
    try clear hcz7_2
    try clear hcz7_3
    try clear hcz7_4
    try clear hcz7_5
    try clear hcz7_6
    try clear hcz7_7
    try clear hcz7_8
    try clear hfz10_0
    try clear hfz10_1
    try clear hfz10_2
    try clear hfz10_3
    try clear hfz10_4
    try clear hfz10_5
    try clear hfz10_6
    try clear hfz10_7
    try clear hfz10_8
    try clear hfz12_0
    try clear hfz12_1
    try clear hfz12_2
    try clear hfz12_3
    try clear hfz12_4
    try clear hfz12_5
    try clear hfz12_6
    try clear hfz12_7
    try clear hfz12_8
    try clear hfz7_0
    try clear hfz7_1
    try clear hfz7_2
    try clear hfz7_3
    try clear hfz7_4
    try clear hfz7_5
    try clear hfz7_6
    try clear hfz7_7
    try clear hfz7_8
    obtain ⟨kq, x17_2, rfl, HA, HJ2, BK240, HB⟩ := hcut
    cases kq with
    | zero => exact absurd HA.out (by simp [castellanlaw5_TcpCut.j0])
    | succ kj2 =>
      have H := HA.out
      clear HA
      simp only [castellanlaw5_TcpCut.j0] at H
      by_cases c14 : x17_2 = true
      · subst c14
        have H1 : (some true) = some r := by rw [if_pos rfl] at H; exact H
        clear H
        have H := H1
        clear H1
        obtain rfl := Option.some.inj H
        go_wp2
        go_ret
        exact ⟨by first | rfl | (simp [errW_none, errW_some] <;> rfl) | (simp [*, errW_none, errW_some] <;> rfl), by repeat (first | (with_reducible first | exact HB.out | apply below_alloc | apply pw_below_drewN | apply below_drew1 | refine below_set ?_ GE240.out) | exact HB.out)⟩
      · replace c14 := Bool.eq_false_iff.mpr c14
        subst c14
        have H1 : ((tcp_Build.f kj2 1 2 a0_0 a0_1 a0_2 a0_3 a0_4 a0_5 a0_6 l0_7 l0_8).bind fun bt243 => (if bt243.2 = 0 then (castellanlaw5_TcpCut.j1 kj2 a1 bt243.1 (decide ((bt243.1.length : Int) < 20)) a0_0 a0_1 a0_2 a0_3 a0_4 a0_5 a0_6 l0_7 l0_8) else (castellanlaw5_TcpCut.j1 kj2 a1 bt243.1 true a0_0 a0_1 a0_2 a0_3 a0_4 a0_5 a0_6 l0_7 l0_8))) = some r := by rw [if_neg (show ¬ (false = true) by decide)] at H; exact H
        clear H
        have H := H1
        clear H1
        replace H := Option.bind_eq_some_iff.mp H
        obtain ⟨⟨t243, t246⟩, A150, H⟩ := H
        replace H : (if t246 = 0 then (castellanlaw5_TcpCut.j1 kj2 a1 t243 (decide ((t243.length : Int) < 20)) a0_0 a0_1 a0_2 a0_3 a0_4 a0_5 a0_6 l0_7 l0_8) else (castellanlaw5_TcpCut.j1 kj2 a1 t243 true a0_0 a0_1 a0_2 a0_3 a0_4 a0_5 a0_6 l0_7 l0_8)) = some r := H
        have A15 := Aside0.mk A150
        clear A150
        have HC16 := Aside0.mk H
        clear H
        have hcz17_0 : wc.cell? ⟨gb240, 0, none⟩ = some (.int .i64 a0_0) := (blk_cell BK240.out 0).trans rfl
        have hcz17_1 : wc.cell? ⟨gb240, 1, none⟩ = some (.int .i64 a0_1) := (blk_cell BK240.out 1).trans rfl
        have hcz17_2 : wc.cell? ⟨gb240, 2, none⟩ = some (.int .u32 a0_2) := (blk_cell BK240.out 2).trans rfl
        have hcz17_3 : wc.cell? ⟨gb240, 3, none⟩ = some (.int .u32 a0_3) := (blk_cell BK240.out 3).trans rfl
        have hcz17_4 : wc.cell? ⟨gb240, 4, none⟩ = some (.int .i64 a0_4) := (blk_cell BK240.out 4).trans rfl
        have hcz17_5 : wc.cell? ⟨gb240, 5, none⟩ = some (.int .i64 a0_5) := (blk_cell BK240.out 5).trans rfl
        have hcz17_6 : wc.cell? ⟨gb240, 6, none⟩ = some (.int .i64 a0_6) := (blk_cell BK240.out 6).trans rfl
        have hcz17_7 : wc.cell? ⟨gb240, 7, none⟩ = some (.slice A0_7 l0_7.length c0_7) := (blk_cell BK240.out 7).trans rfl
        have hcz17_8 : wc.cell? ⟨gb240, 8, none⟩ = some (.slice A0_8 l0_8.length c0_8) := (blk_cell BK240.out 8).trans rfl
        have hfz17_0 := blk_frozen BK240.out 0
        have hfz17_1 := blk_frozen BK240.out 1
        have hfz17_2 := blk_frozen BK240.out 2
        have hfz17_3 := blk_frozen BK240.out 3
        have hfz17_4 := blk_frozen BK240.out 4
        have hfz17_5 := blk_frozen BK240.out 5
        have hfz17_6 := blk_frozen BK240.out 6
        have hfz17_7 := blk_frozen BK240.out 7
        have hfz17_8 := blk_frozen BK240.out 8
        go_upto_region 4 with (first | ((with_reducible refine gate_callee (f := 25) rfl ?_); refine goesL_ (some 20) rfl rfl Try.func25 (by kernel_rfl) rfl #[.int .u32 1, .int .u32 2, .agg #[.int .i64 a0_0, .int .i64 a0_1, .int .u32 a0_2, .int .u32 a0_3, .int .i64 a0_4, .int .i64 a0_5, .int .i64 a0_6, .slice A0_7 l0_7.length c0_7, .slice A0_8 l0_8.length c0_8]] rfl (by (try simp only [List.map_toArray, List.map_cons, List.map_nil]); first | done | rfl | (simp only [List.length_drop, List.length_take]; rfl)) ?_; (with_reducible refine (tcp_Build.calls kj2 1 2 a0_0 a0_1 a0_2 a0_3 a0_4 a0_5 a0_6 (fun k_ => k_ < w.heap.size) _ _ l0_7 (fun k_ => k_ < w.heap.size) _ _ l0_8 t243 t246 _ ?side1 ?side2 A15.out).mono ?_); (case side1 => exact Kd.V_mk HC0_7.out (Kd.F_below (Kd.C_F (Kd.heap_int .u8) HR0_7.out) (by repeat (first | (with_reducible first | exact HB.out | apply below_alloc | apply pw_below_drewN | apply below_drew1 | refine below_set ?_ GE240.out) | exact HB.out)))); (case side2 => exact Kd.V_mk HC0_8.out (Kd.F_below (Kd.C_F (Kd.heap_int .u8) HR0_8.out) (by repeat (first | (with_reducible first | exact HB.out | apply below_alloc | apply pw_below_drewN | apply below_drew1 | refine below_set ?_ GE240.out) | exact HB.out)))); rintro e w18 ⟨v244, rfl, ho0, hb⟩; refine ⟨_, rfl, ?_⟩; have n0_ := Aside0.mk (Kd.R_lower (Kd.R_mono (ok' := fun k_ => True) ho0 (fun _ hk_ => trivial)) (below_size (by repeat (first | (with_reducible first | exact HB.out | apply below_alloc | apply pw_below_drewN | apply below_drew1 | refine below_set ?_ GE240.out) | exact HB.out)))); have n1_ := Aside0.mk (blk_below (g := gb240) (o := .cells #[.int .i64 a0_0, .int .i64 a0_1, .int .u32 a0_2, .int .u32 a0_3, .int .i64 a0_4, .int .i64 a0_5, .int .i64 a0_6, .slice A0_7 l0_7.length c0_7, .slice A0_8 l0_8.length c0_8] 27 (0, 0)) (by (with_reducible repeat (first | refine blk_drewN ?_ _ | refine blk_drew ?_ | refine blk_alloc ?_ _)); exact BK240.out) hb); have n2_ := Aside0.mk (below_step (by repeat (first | (with_reducible first | exact HB.out | apply below_alloc | apply pw_below_drewN | apply below_drew1 | refine below_set ?_ GE240.out) | exact HB.out)) hb); clear BK240; clear HB; have HO245 := n0_; have BK240 := n1_; have HB := n2_; clear n0_ n1_ n2_; (try clear hb); (try clear hb2); (try clear hk); (try clear hi); (try clear ho0)))
        (try simp only [Act.put, List.setIfInBounds_toArray, List.set_cons_zero, List.set_cons_succ])
        go_cut [29] (fun v29 wc => ∃ (kq : Nat) (x29_15 : Bool), v29 = .bool x29_15 ∧ Aside0 (castellanlaw5_TcpCut.j1 kq a1 t243 x29_15 a0_0 a0_1 a0_2 a0_3 a0_4 a0_5 a0_6 l0_7 l0_8 = some r) ∧ Aside0 (kq ≤ kj2) ∧ Aside0 (Kd.R (Kd.int .u8) 5 wc w.heap.size (fun _ => True) v244 t243) ∧ Aside0 (wc.heap[gb240]? = some (.cells #[.int .i64 a0_0, .int .i64 a0_1, .int .u32 a0_2, .int .u32 a0_3, .int .i64 a0_4, .int .i64 a0_5, .int .i64 a0_6, (.slice A0_7 l0_7.length c0_7), (.slice A0_8 l0_8.length c0_8)] 27 (0, 0))) ∧ Aside0 (Below w.heap.size w wc))
        case first =>
          have H := HC16.out
          clear HC16
          by_cases c19 : t246 = 0
          · rw [if_pos c19] at H
            have c19b0 : (t246 == 0) = true := beq_iff_eq.mpr c19
            have c19b1 : (t246 != 0) = false := bne_eq_false_iff_eq.mpr c19
            clear c19
            (first | rw [c19b0] | (simp only [i64_w, i32_w]; rw [c19b0]) | skip)
            have H' := Aside0.mk H
            clear H
            obtain ⟨Ao20, co20, eo20⟩ := Kd.R_slice HO245.out
            subst eo20
            go_wp2
            go_meet
            case rel => exact ⟨_, (decide ((t243.length : Int) < 20)), (by first | rfl | (simp; done) | (simp [*]; done)), H', ⟨by have := HJ2.out; first | omega | exact Nat.le_refl _⟩, ⟨by (with_reducible repeat (first | apply Kd.R_alloc | apply Kd.R_drewN | apply Kd.R_drew)); exact HO245.out⟩, ⟨by (with_reducible repeat (first | refine blk_drewN ?_ _ | refine blk_drew ?_ | refine blk_alloc ?_ _)); exact BK240.out⟩, ⟨by repeat (first | (with_reducible first | exact HB.out | apply below_alloc | apply pw_below_drewN | apply below_drew1 | refine below_set ?_ GE240.out) | exact HB.out)⟩⟩
          · rw [if_neg c19] at H
            have c19b0 : (t246 == 0) = false := beq_eq_false_iff_ne.mpr c19
            have c19b1 : (t246 != 0) = true := bne_iff_ne.mpr c19
            (first | rw [c19b0] | (simp only [i64_w, i32_w]; rw [c19b0]) | skip)
            have H' := Aside0.mk H
            clear H
            go_wp2
            go_meet
            case rel => exact ⟨_, (true), (by first | rfl | (simp; done) | (simp [*]; done)), H', ⟨by have := HJ2.out; first | omega | exact Nat.le_refl _⟩, ⟨by (with_reducible repeat (first | apply Kd.R_alloc | apply Kd.R_drewN | apply Kd.R_drew)); exact HO245.out⟩, ⟨by (with_reducible repeat (first | refine blk_drewN ?_ _ | refine blk_drew ?_ | refine blk_alloc ?_ _)); exact BK240.out⟩, ⟨by repeat (first | (with_reducible first | exact HB.out | apply below_alloc | apply pw_below_drewN | apply below_drew1 | refine below_set ?_ GE240.out) | exact HB.out)⟩⟩
        case rest =>
          clear HC16
          try clear c1
          try clear c2
          try clear p2
          try clear c6
          try clear c13
          try clear c14
          try clear c17
          try clear c19
          try clear c19b0
          try clear c19b1
          try clear hcz10_0
          try clear hcz10_1
          try clear hcz10_2
          try clear hcz10_3
          try clear hcz10_4
          try clear hcz10_5
          try clear hcz10_6
          try clear hcz10_7
          try clear hcz10_8
          try clear hcz12_0
          try clear hcz12_1
          try clear hcz12_2
          try clear hcz12_3
          try clear hcz12_4
          try clear hcz12_5
          try clear hcz12_6
          try clear hcz12_7
          try clear hcz12_8
          try clear hcz17_0
          try clear hcz17_1
          try clear hcz17_2
          try clear hcz17_3
          try clear hcz17_4
          try clear hcz17_5
          try clear hcz17_6
          try clear hcz17_7
          try clear hcz17_8
          try clear hcz7_0
          try clear hcz7_1
          try clear hcz7_2
          try clear hcz7_3
          try clear hcz7_4
          try clear hcz7_5
          try clear hcz7_6
          try clear hcz7_7
          try clear hcz7_8
          try clear hfz10_0
          try clear hfz10_1
          try clear hfz10_2
          try clear hfz10_3
          try clear hfz10_4
          try clear hfz10_5
          try clear hfz10_6
          try clear hfz10_7
          try clear hfz10_8
          try clear hfz12_0
          try clear hfz12_1
          try clear hfz12_2
          try clear hfz12_3
          try clear hfz12_4
          try clear hfz12_5
          try clear hfz12_6
          try clear hfz12_7
          try clear hfz12_8
          try clear hfz17_0
          try clear hfz17_1
          try clear hfz17_2
          try clear hfz17_3
          try clear hfz17_4
          try clear hfz17_5
          try clear hfz17_6
          try clear hfz17_7
          try clear hfz17_8
          try clear hfz7_0
          try clear hfz7_1
          try clear hfz7_2
          try clear hfz7_3
          try clear hfz7_4
          try clear hfz7_5
          try clear hfz7_6
          try clear hfz7_7
          try clear hfz7_8
          try clear p2
          obtain ⟨kq, x29_15, rfl, HA, HJ15, HO_5, BK240, HB⟩ := hcut
          cases kq with
          | zero => exact absurd HA.out (by simp [castellanlaw5_TcpCut.j1])
          | succ kj15 =>
            have H := HA.out
            clear HA
            simp only [castellanlaw5_TcpCut.j1] at H
            by_cases c21 : x29_15 = true
            · subst c21
              have H1 : (some false) = some r := by rw [if_pos rfl] at H; exact H
              clear H
              have H := H1
              clear H1
              exact absurd (H.trans (congrArg some HRT.out)) (by simp)
            · replace c21 := Bool.eq_false_iff.mpr c21
              subst c21
              have H1 : (if (t243.length : Int) = 0 then (none) else (if 0 ≤ (Int.tmod (Go.bits .and .i64 a1 65535) (t243.length : Int)) then (if (Int.tmod (Go.bits .and .i64 a1 65535) (t243.length : Int)) ≤ (t243.length : Int) then ((tcp_Parse.f kj15 (t243.take ((Int.tmod (Go.bits .and .i64 a1 65535) (t243.length : Int)) : Int).toNat)).bind fun bt251 => (if (Int.tmod (Go.bits .and .i64 a1 65535) (t243.length : Int)) < (wrap64 (20 + (l0_7.length : Int))) then (if bt251.2.2.2.2.2.2.2.2.2 = 3 then ((castellanlaw5_known.f kj15).bind fun t266 => (some t266)) else (some false)) else (if bt251.2.2.2.2.2.2.2.2.2 = 0 then (if (bt251.2.2.2.2.2.2.2.2.1.length : Int) = (wrap64 ((Int.tmod (Go.bits .and .i64 a1 65535) (t243.length : Int)) - (wrap64 (20 + (l0_7.length : Int))))) then ((castellanlaw5_known.f kj15).bind fun t267 => (some t267)) else (some false)) else (some false)))) else (none)) else (none))) = some r := by rw [if_neg (show ¬ (false = true) by decide)] at H; exact H
              clear H
              have H := H1
              clear H1
              by_cases c22 : (t243.length : Int) = 0
              · rw [if_pos c22] at H
                exact absurd H (by simp)
              · rw [if_neg c22] at H
                have c22b0 : ((t243.length : Int) == 0) = false := beq_eq_false_iff_ne.mpr c22
                have c22b1 : ((t243.length : Int) != 0) = true := bne_iff_ne.mpr c22
                have c22b2 : ¬ (t243 = []) := fun h_ => c22 (by rw [h_]; rfl)
                obtain ⟨ji23, hji23⟩ : ∃ j_ : Int, (Int.tmod (Go.bits .and .i64 a1 65535) (t243.length : Int)) = j_ := ⟨_, rfl⟩
                replace H : (if 0 ≤ (ji23) then (if (ji23) ≤ (t243.length : Int) then ((tcp_Parse.f kj15 (t243.take ((ji23) : Int).toNat)).bind fun bt251 => (if (ji23) < (wrap64 (20 + (l0_7.length : Int))) then (if bt251.2.2.2.2.2.2.2.2.2 = 3 then ((castellanlaw5_known.f kj15).bind fun t266 => (some t266)) else (some false)) else (if bt251.2.2.2.2.2.2.2.2.2 = 0 then (if (bt251.2.2.2.2.2.2.2.2.1.length : Int) = (wrap64 ((ji23) - (wrap64 (20 + (l0_7.length : Int))))) then ((castellanlaw5_known.f kj15).bind fun t267 => (some t267)) else (some false)) else (some false)))) else (none)) else (none)) = some r := by first | (rw [hji23] at H; exact H) | (simp only [hji23] at H ⊢; exact H)
                by_cases c24 : 0 ≤ (ji23)
                · rw [if_pos c24] at H
                  have c24b0 := eq_true c24
                  have c24b1 : decide (0 ≤ (ji23)) = true := decide_eq_true c24
                  clear c24
                  by_cases c25 : (ji23) ≤ (t243.length : Int)
                  · rw [if_pos c25] at H
                    have c25b0 := eq_true c25
                    have c25b1 : decide ((ji23) ≤ (t243.length : Int)) = true := decide_eq_true c25
                    clear c25
                    obtain ⟨y247, hy247⟩ : ∃ y_ : List Int, y_ = (t243.take ((ji23) : Int).toNat) := ⟨_, rfl⟩
                    replace H : ((tcp_Parse.f kj15 y247).bind fun bt251 => (if (ji23) < (wrap64 (20 + (l0_7.length : Int))) then (if bt251.2.2.2.2.2.2.2.2.2 = 3 then ((castellanlaw5_known.f kj15).bind fun t266 => (some t266)) else (some false)) else (if bt251.2.2.2.2.2.2.2.2.2 = 0 then (if (bt251.2.2.2.2.2.2.2.2.1.length : Int) = (wrap64 ((ji23) - (wrap64 (20 + (l0_7.length : Int))))) then ((castellanlaw5_known.f kj15).bind fun t267 => (some t267)) else (some false)) else (some false)))) = some r := by first | (rw [hy247]; with_reducible exact H) | (have H2_ := (Option.bind_some _ _).symm.trans H; rw [hy247]; with_reducible exact H2_) | (have H2_ := (Option.bind_some _ _).symm.trans H; with_reducible exact H2_) | with_reducible exact H | (rw [hy247]; exact H) | exact H
                    have Ny247 := Aside0.mk hy247
                    clear hy247
                    replace H := Option.bind_eq_some_iff.mp H
                    obtain ⟨⟨t251, t252, t253, t254, t255, t256, t257, t258, t261, t264⟩, A260, H⟩ := H
                    replace H : (if (ji23) < (wrap64 (20 + (l0_7.length : Int))) then (if t264 = 3 then ((castellanlaw5_known.f kj15).bind fun t266 => (some t266)) else (some false)) else (if t264 = 0 then (if (t261.length : Int) = (wrap64 ((ji23) - (wrap64 (20 + (l0_7.length : Int))))) then ((castellanlaw5_known.f kj15).bind fun t267 => (some t267)) else (some false)) else (some false))) = some r := H
                    have A26 := Aside0.mk A260
                    clear A260
                    by_cases c27 : (ji23) < (wrap64 (20 + (l0_7.length : Int)))
                    · rw [if_pos c27] at H
                      have c27b0 : decide ((ji23) < (wrap64 (20 + (l0_7.length : Int)))) = true := decide_eq_true c27
                      clear c27
                      by_cases c28 : t264 = 3
                      · rw [if_pos c28] at H
                        have c28b0 : (t264 == 3) = true := beq_iff_eq.mpr c28
                        have c28b1 : (t264 != 3) = false := bne_eq_false_iff_eq.mpr c28
                        clear c28
                        replace H := Option.bind_eq_some_iff.mp H
                        obtain ⟨t266, A290, H⟩ := H
                        replace H : (some t266) = some r := H
                        have A29 := Aside0.mk A290
                        clear A290
                        obtain rfl := Option.some.inj H
                        obtain ⟨Ao30, co30, eo30⟩ := Kd.R_slice HO_5.out
                        subst eo30
                        have q31 : ((ji23) : Int) ≤ ((t243.length : Int) : Int) := of_decide_eq_true (by first | (with_reducible assumption) | assumption)
                        obtain ⟨i031, hi031, _, hsz31, _⟩ := info_parts info5
                        have hroom31 : t243.length ≤ co30 := (Kd.R_reads' HO_5.out).2.1
                        have hC31 : Kd.C (Kd.int .u8) _ Ao30 t243.length t243 := (Kd.R_reads' HO_5.out).2.2
                        have hcut31 := cut_to (P := Try.prog) 25 5 .i64 Try.underlying25 hi031 Ao30 t243.length co30 (ji23) (of_decide_eq_true (by first | (with_reducible assumption) | assumption)) q31 hroom31
                        have hr31 := Kd.C_take (m := ((ji23) : Int).toNat) hC31 (by omega)
                        have hy31 : y247.length = ((ji23) : Int).toNat := (by rw [Ny247.out, List.length_take]; omega)
                        rw [← Ny247.out] at hr31
                        rw [← hy31] at hcut31
                        have HR250 := Aside0.mk hr31
                        have HC250 := Aside0.mk (show y247.length ≤ co30 from by omega)
                        clear hr31 hC31 hroom31 hi031 hsz31
                        have KY31 := Aside0.mk hy31
                        clear hy31
                        have KL31 := Aside0.mk (show ((ji23) : Int).toNat ≤ t243.length from by omega)
                        replace q31 := eq_true q31
                        go_wp2_with (first | ((with_reducible refine gate_callee (f := 21) rfl ?_); refine goesL_ (some 39) rfl rfl Try.func21 (by kernel_rfl) rfl #[.slice Ao30 y247.length co30] rfl (by (try simp only [List.map_toArray, List.map_cons, List.map_nil]); first | done | rfl | (simp only [List.length_drop, List.length_take]; rfl)) ?_; (with_reducible refine (tcp_Parse.calls kj15 _ _ y247 t251 t252 t253 t254 t255 t256 t257 t258 t261 t264 _ ?side1 ?side2 A26.out).mono ?_); (case side1 => repeat (first | exact (by repeat (first | (with_reducible exact HR250.out) | (with_reducible refine Kd.C_alloc ?_ _) | (with_reducible refine Kd.C_drewN ?_ _) | (with_reducible refine Kd.C_drew ?_) | exact HR250.out)) | (with_reducible refine Kd.C_alloc ?_ _) | (with_reducible refine Kd.C_drewN ?_ _) | (with_reducible refine Kd.C_drew ?_))); (case side2 => exact HC250.out); rintro e w32 ⟨v259, v262, rfl, ho0, ho1, hb⟩; refine ⟨_, rfl, ?_⟩; have n0_ := Aside0.mk (Kd.R_mono (Kd.R_told (Kd.R_told (Kd.R_old (by (with_reducible repeat (first | apply Kd.R_alloc | apply Kd.R_drewN | apply Kd.R_drew)); exact HO_5.out) hb) (Kd.R_base ho0)) (Kd.R_base ho1)) (fun _ h_ => h_.1)); have n1_ := Aside0.mk (Kd.R_lower (Kd.R_new' ho0 (Kd.R_lt (by (with_reducible repeat (first | apply Kd.R_alloc | apply Kd.R_drewN | apply Kd.R_drew)); exact HO_5.out))) (below_size (by repeat (first | (with_reducible first | exact HB.out | apply below_alloc | apply pw_below_drewN | apply below_drew1 | refine below_set ?_ GE240.out) | exact HB.out)))); have n2_ := Aside0.mk (Kd.R_lower (Kd.R_new' ho1 (Kd.R_lt (by (with_reducible repeat (first | apply Kd.R_alloc | apply Kd.R_drewN | apply Kd.R_drew)); exact HO_5.out))) (below_size (by repeat (first | (with_reducible first | exact HB.out | apply below_alloc | apply pw_below_drewN | apply below_drew1 | refine below_set ?_ GE240.out) | exact HB.out)))); have n3_ := Aside0.mk (blk_below (g := gb240) (o := .cells #[.int .i64 a0_0, .int .i64 a0_1, .int .u32 a0_2, .int .u32 a0_3, .int .i64 a0_4, .int .i64 a0_5, .int .i64 a0_6, .slice A0_7 l0_7.length c0_7, .slice A0_8 l0_8.length c0_8] 27 (0, 0)) (by (with_reducible repeat (first | refine blk_drewN ?_ _ | refine blk_drew ?_ | refine blk_alloc ?_ _)); exact BK240.out) hb); have n4_ := Aside0.mk (Kd.C_below (by repeat (first | (with_reducible exact HR250.out) | (with_reducible refine Kd.C_alloc ?_ _) | (with_reducible refine Kd.C_drewN ?_ _) | (with_reducible refine Kd.C_drew ?_) | exact HR250.out)) hb); have n5_ := Aside0.mk (below_step (by repeat (first | (with_reducible first | exact HB.out | apply below_alloc | apply pw_below_drewN | apply below_drew1 | refine below_set ?_ GE240.out) | exact HB.out)) hb); clear HO_5; clear BK240; clear HR250; clear HB; have HO_5 := n0_; have HO260 := n1_; have HO263 := n2_; have BK240 := n3_; have HR250 := n4_; have HB := n5_; clear n0_ n1_ n2_ n3_ n4_ n5_; (try clear hb); (try clear hb2); (try clear hk); (try clear hi); (try clear ho0); (try clear ho1)) | ((with_reducible refine gate_dst (N := 8) rfl ?_); (try (refine gate_guard (by rfl) ?_; dsimp only)); refine box_event ?hg (N := 8) ?hd (cs := #[.int .i64 0, .int .i64 0, .int .u32 0, .int .u32 0, .int .i64 0, .int .i64 0, .int .i64 0, .slice none 0 0, .slice none 0 0]) (t := 27) ?hr ?_; (case hd => rfl); (case hg => rfl); (case hr => first | (go_simp; done) | (go_simp; rfl)); intro gb265 hg w33 hbox hb; have n0_ := Aside0.mk (Kd.R_below (by (with_reducible repeat (first | apply Kd.R_alloc | apply Kd.R_drewN | apply Kd.R_drew)); exact HO_5.out) hb); have n1_ := Aside0.mk (Kd.R_below (by (with_reducible repeat (first | apply Kd.R_alloc | apply Kd.R_drewN | apply Kd.R_drew)); exact HO260.out) hb); have n2_ := Aside0.mk (Kd.R_below (by (with_reducible repeat (first | apply Kd.R_alloc | apply Kd.R_drewN | apply Kd.R_drew)); exact HO263.out) hb); have n3_ := Aside0.mk (blk_below (g := gb240) (o := .cells #[.int .i64 a0_0, .int .i64 a0_1, .int .u32 a0_2, .int .u32 a0_3, .int .i64 a0_4, .int .i64 a0_5, .int .i64 a0_6, .slice A0_7 l0_7.length c0_7, .slice A0_8 l0_8.length c0_8] 27 (0, 0)) (by (with_reducible repeat (first | refine blk_drewN ?_ _ | refine blk_drew ?_ | refine blk_alloc ?_ _)); exact BK240.out) hb); have n4_ := Aside0.mk (Kd.C_below (by repeat (first | (with_reducible exact HR250.out) | (with_reducible refine Kd.C_alloc ?_ _) | (with_reducible refine Kd.C_drewN ?_ _) | (with_reducible refine Kd.C_drew ?_) | exact HR250.out)) hb); have n5_ := Aside0.mk (below_step (by repeat (first | (with_reducible first | exact HB.out | apply below_alloc | apply pw_below_drewN | apply below_drew1 | refine below_set ?_ GE240.out) | exact HB.out)) hb); have n6_ := Aside0.mk (hbox); have n7_ := Aside0.mk ((by rw [hg]; exact (below_size (by repeat (first | (with_reducible first | exact HB.out | apply below_alloc | apply pw_below_drewN | apply below_drew1 | refine below_set ?_ GE240.out) | exact HB.out))) : w.heap.size ≤ gb265)); have n8_ := Aside0.mk ((by rw [hg]; exact (below_size (by repeat (first | (with_reducible first | exact HB.out | apply below_alloc | apply pw_below_drewN | apply below_drew1 | refine below_set ?_ GE240.out) | exact HB.out))) : w.heap.size ≤ gb265)); have n9_ := Aside0.mk ((by rw [hg]; exact Nat.ne_of_lt (blk_lt (g := gb240) (o := .cells #[.int .i64 a0_0, .int .i64 a0_1, .int .u32 a0_2, .int .u32 a0_3, .int .i64 a0_4, .int .i64 a0_5, .int .i64 a0_6, .slice A0_7 l0_7.length c0_7, .slice A0_8 l0_8.length c0_8] 27 (0, 0)) (by (with_reducible repeat (first | refine blk_drewN ?_ _ | refine blk_drew ?_ | refine blk_alloc ?_ _)); exact BK240.out)) : gb240 ≠ gb265)); have n10_ := Aside0.mk ((by rw [hg]; exact Nat.ne_of_gt (blk_lt (g := gb240) (o := .cells #[.int .i64 a0_0, .int .i64 a0_1, .int .u32 a0_2, .int .u32 a0_3, .int .i64 a0_4, .int .i64 a0_5, .int .i64 a0_6, .slice A0_7 l0_7.length c0_7, .slice A0_8 l0_8.length c0_8] 27 (0, 0)) (by (with_reducible repeat (first | refine blk_drewN ?_ _ | refine blk_drew ?_ | refine blk_alloc ?_ _)); exact BK240.out)) : gb265 ≠ gb240)); clear HO_5; clear HO260; clear HO263; clear BK240; clear HR250; clear HB; have HO_5 := n0_; have HO260 := n1_; have HO263 := n2_; have BK240 := n3_; have HR250 := n4_; have HB := n5_; have BK265 := n6_; have GW265 := n7_; have GE265 := n8_; have NB240_265 := n9_; have NB265_240 := n10_; clear n0_ n1_ n2_ n3_ n4_ n5_ n6_ n7_ n8_ n9_ n10_; clear hb hbox hg; have hnb34 := NB265_240.out; have hnc34 := NB240_265.out; have hcz35_0 : w33.cell? ⟨gb265, 0, none⟩ = some (.int .i64 0) := (blk_cell BK265.out 0).trans rfl; have hcz35_1 : w33.cell? ⟨gb265, 1, none⟩ = some (.int .i64 0) := (blk_cell BK265.out 1).trans rfl; have hcz35_2 : w33.cell? ⟨gb265, 2, none⟩ = some (.int .u32 0) := (blk_cell BK265.out 2).trans rfl; have hcz35_3 : w33.cell? ⟨gb265, 3, none⟩ = some (.int .u32 0) := (blk_cell BK265.out 3).trans rfl; have hcz35_4 : w33.cell? ⟨gb265, 4, none⟩ = some (.int .i64 0) := (blk_cell BK265.out 4).trans rfl; have hcz35_5 : w33.cell? ⟨gb265, 5, none⟩ = some (.int .i64 0) := (blk_cell BK265.out 5).trans rfl; have hcz35_6 : w33.cell? ⟨gb265, 6, none⟩ = some (.int .i64 0) := (blk_cell BK265.out 6).trans rfl; have hcz35_7 : w33.cell? ⟨gb265, 7, none⟩ = some (.slice none 0 0) := (blk_cell BK265.out 7).trans rfl; have hcz35_8 : w33.cell? ⟨gb265, 8, none⟩ = some (.slice none 0 0) := (blk_cell BK265.out 8).trans rfl; have hfz35_0 := blk_frozen BK265.out 0; have hfz35_1 := blk_frozen BK265.out 1; have hfz35_2 := blk_frozen BK265.out 2; have hfz35_3 := blk_frozen BK265.out 3; have hfz35_4 := blk_frozen BK265.out 4; have hfz35_5 := blk_frozen BK265.out 5; have hfz35_6 := blk_frozen BK265.out 6; have hfz35_7 := blk_frozen BK265.out 7; have hfz35_8 := blk_frozen BK265.out 8; obtain ⟨Ao36, co36, eo36⟩ := Kd.R_slice HO260.out; subst eo36; obtain ⟨Ao37, co37, eo37⟩ := Kd.R_slice HO263.out; subst eo37; have hcz38_0 : w33.cell? ⟨gb240, 0, none⟩ = some (.int .i64 a0_0) := (blk_cell BK240.out 0).trans rfl; have hcz38_1 : w33.cell? ⟨gb240, 1, none⟩ = some (.int .i64 a0_1) := (blk_cell BK240.out 1).trans rfl; have hcz38_2 : w33.cell? ⟨gb240, 2, none⟩ = some (.int .u32 a0_2) := (blk_cell BK240.out 2).trans rfl; have hcz38_3 : w33.cell? ⟨gb240, 3, none⟩ = some (.int .u32 a0_3) := (blk_cell BK240.out 3).trans rfl; have hcz38_4 : w33.cell? ⟨gb240, 4, none⟩ = some (.int .i64 a0_4) := (blk_cell BK240.out 4).trans rfl; have hcz38_5 : w33.cell? ⟨gb240, 5, none⟩ = some (.int .i64 a0_5) := (blk_cell BK240.out 5).trans rfl; have hcz38_6 : w33.cell? ⟨gb240, 6, none⟩ = some (.int .i64 a0_6) := (blk_cell BK240.out 6).trans rfl; have hcz38_7 : w33.cell? ⟨gb240, 7, none⟩ = some (.slice A0_7 l0_7.length c0_7) := (blk_cell BK240.out 7).trans rfl; have hcz38_8 : w33.cell? ⟨gb240, 8, none⟩ = some (.slice A0_8 l0_8.length c0_8) := (blk_cell BK240.out 8).trans rfl; have hfz38_0 := blk_frozen BK240.out 0; have hfz38_1 := blk_frozen BK240.out 1; have hfz38_2 := blk_frozen BK240.out 2; have hfz38_3 := blk_frozen BK240.out 3; have hfz38_4 := blk_frozen BK240.out 4; have hfz38_5 := blk_frozen BK240.out 5; have hfz38_6 := blk_frozen BK240.out 6; have hfz38_7 := blk_frozen BK240.out 7; have hfz38_8 := blk_frozen BK240.out 8) | (go_at_call 19; (with_reducible refine (castellanlaw5_known.calls kj15  t266 _ A29.out).mono ?_); rintro e w39 ⟨rfl, hb⟩; have n0_ := Aside0.mk (Kd.R_below (by (with_reducible repeat (first | apply Kd.R_alloc | apply Kd.R_drewN | apply Kd.R_drew)); exact (Kd.R_mono (Kd.R_far (p := ⟨gb265, 8, none⟩) (Kd.R_far (p := ⟨gb265, 7, none⟩) (Kd.R_far (p := ⟨gb265, 6, none⟩) (Kd.R_far (p := ⟨gb265, 5, none⟩) (Kd.R_far (p := ⟨gb265, 4, none⟩) (Kd.R_far (p := ⟨gb265, 3, none⟩) (Kd.R_far (p := ⟨gb265, 2, none⟩) (Kd.R_far (p := ⟨gb265, 1, none⟩) (Kd.R_far (p := ⟨gb265, 0, none⟩) (Kd.R_types HO_5.out BK265.out (by decide)) (fun _ hk => hk.2) (.int .i64 t251)) (fun _ hk => hk.2) (.int .i64 t252)) (fun _ hk => hk.2) (.int .u32 t253)) (fun _ hk => hk.2) (.int .u32 t254)) (fun _ hk => hk.2) (.int .i64 t255)) (fun _ hk => hk.2) (.int .i64 t256)) (fun _ hk => hk.2) (.int .i64 t257)) (fun _ hk => hk.2) (.slice Ao36 t258.length co36)) (fun _ hk => hk.2) (.slice Ao37 t261.length co37)) (fun _ h_ => h_.1))) hb); have n1_ := Aside0.mk (Kd.R_below (by (with_reducible repeat (first | apply Kd.R_alloc | apply Kd.R_drewN | apply Kd.R_drew)); exact (Kd.R_mono (Kd.R_far (p := ⟨gb265, 8, none⟩) (Kd.R_far (p := ⟨gb265, 7, none⟩) (Kd.R_far (p := ⟨gb265, 6, none⟩) (Kd.R_far (p := ⟨gb265, 5, none⟩) (Kd.R_far (p := ⟨gb265, 4, none⟩) (Kd.R_far (p := ⟨gb265, 3, none⟩) (Kd.R_far (p := ⟨gb265, 2, none⟩) (Kd.R_far (p := ⟨gb265, 1, none⟩) (Kd.R_far (p := ⟨gb265, 0, none⟩) (Kd.R_types HO260.out BK265.out (by decide)) (fun _ hk => hk.2) (.int .i64 t251)) (fun _ hk => hk.2) (.int .i64 t252)) (fun _ hk => hk.2) (.int .u32 t253)) (fun _ hk => hk.2) (.int .u32 t254)) (fun _ hk => hk.2) (.int .i64 t255)) (fun _ hk => hk.2) (.int .i64 t256)) (fun _ hk => hk.2) (.int .i64 t257)) (fun _ hk => hk.2) (.slice Ao36 t258.length co36)) (fun _ hk => hk.2) (.slice Ao37 t261.length co37)) (fun _ h_ => h_.1))) hb); have n2_ := Aside0.mk (Kd.R_below (by (with_reducible repeat (first | apply Kd.R_alloc | apply Kd.R_drewN | apply Kd.R_drew)); exact (Kd.R_mono (Kd.R_far (p := ⟨gb265, 8, none⟩) (Kd.R_far (p := ⟨gb265, 7, none⟩) (Kd.R_far (p := ⟨gb265, 6, none⟩) (Kd.R_far (p := ⟨gb265, 5, none⟩) (Kd.R_far (p := ⟨gb265, 4, none⟩) (Kd.R_far (p := ⟨gb265, 3, none⟩) (Kd.R_far (p := ⟨gb265, 2, none⟩) (Kd.R_far (p := ⟨gb265, 1, none⟩) (Kd.R_far (p := ⟨gb265, 0, none⟩) (Kd.R_types HO263.out BK265.out (by decide)) (fun _ hk => hk.2) (.int .i64 t251)) (fun _ hk => hk.2) (.int .i64 t252)) (fun _ hk => hk.2) (.int .u32 t253)) (fun _ hk => hk.2) (.int .u32 t254)) (fun _ hk => hk.2) (.int .i64 t255)) (fun _ hk => hk.2) (.int .i64 t256)) (fun _ hk => hk.2) (.int .i64 t257)) (fun _ hk => hk.2) (.slice Ao36 t258.length co36)) (fun _ hk => hk.2) (.slice Ao37 t261.length co37)) (fun _ h_ => h_.1))) hb); have n3_ := Aside0.mk (blk_below (g := gb240) (o := .cells #[.int .i64 a0_0, .int .i64 a0_1, .int .u32 a0_2, .int .u32 a0_3, .int .i64 a0_4, .int .i64 a0_5, .int .i64 a0_6, .slice A0_7 l0_7.length c0_7, .slice A0_8 l0_8.length c0_8] 27 (0, 0)) (by (with_reducible repeat (first | refine blk_drewN ?_ _ | refine blk_drew ?_ | refine blk_alloc ?_ _)); refine blk_far ?_ NB240_265.out _; (with_reducible repeat (first | refine blk_drewN ?_ _ | refine blk_drew ?_ | refine blk_alloc ?_ _)); refine blk_far ?_ NB240_265.out _; (with_reducible repeat (first | refine blk_drewN ?_ _ | refine blk_drew ?_ | refine blk_alloc ?_ _)); refine blk_far ?_ NB240_265.out _; (with_reducible repeat (first | refine blk_drewN ?_ _ | refine blk_drew ?_ | refine blk_alloc ?_ _)); refine blk_far ?_ NB240_265.out _; (with_reducible repeat (first | refine blk_drewN ?_ _ | refine blk_drew ?_ | refine blk_alloc ?_ _)); refine blk_far ?_ NB240_265.out _; (with_reducible repeat (first | refine blk_drewN ?_ _ | refine blk_drew ?_ | refine blk_alloc ?_ _)); refine blk_far ?_ NB240_265.out _; (with_reducible repeat (first | refine blk_drewN ?_ _ | refine blk_drew ?_ | refine blk_alloc ?_ _)); refine blk_far ?_ NB240_265.out _; (with_reducible repeat (first | refine blk_drewN ?_ _ | refine blk_drew ?_ | refine blk_alloc ?_ _)); refine blk_far ?_ NB240_265.out _; (with_reducible repeat (first | refine blk_drewN ?_ _ | refine blk_drew ?_ | refine blk_alloc ?_ _)); refine blk_far ?_ NB240_265.out _; (with_reducible repeat (first | refine blk_drewN ?_ _ | refine blk_drew ?_ | refine blk_alloc ?_ _)); exact BK240.out) hb); have n4_ := Aside0.mk (blk_below (g := gb265) (o := .cells #[.int .i64 t251, .int .i64 t252, .int .u32 t253, .int .u32 t254, .int .i64 t255, .int .i64 t256, .int .i64 t257, .slice Ao36 t258.length co36, .slice Ao37 t261.length co37] 27 (0, 0)) (by (with_reducible repeat (first | refine blk_drewN ?_ _ | refine blk_drew ?_ | refine blk_alloc ?_ _)); refine blk_put (cs := #[.int .i64 t251, .int .i64 t252, .int .u32 t253, .int .u32 t254, .int .i64 t255, .int .i64 t256, .int .i64 t257, .slice Ao36 t258.length co36, .slice none 0 0]) ?_ 8 _ rfl; (with_reducible repeat (first | refine blk_drewN ?_ _ | refine blk_drew ?_ | refine blk_alloc ?_ _)); refine blk_put (cs := #[.int .i64 t251, .int .i64 t252, .int .u32 t253, .int .u32 t254, .int .i64 t255, .int .i64 t256, .int .i64 t257, .slice none 0 0, .slice none 0 0]) ?_ 7 _ rfl; (with_reducible repeat (first | refine blk_drewN ?_ _ | refine blk_drew ?_ | refine blk_alloc ?_ _)); refine blk_put (cs := #[.int .i64 t251, .int .i64 t252, .int .u32 t253, .int .u32 t254, .int .i64 t255, .int .i64 t256, .int .i64 0, .slice none 0 0, .slice none 0 0]) ?_ 6 _ rfl; (with_reducible repeat (first | refine blk_drewN ?_ _ | refine blk_drew ?_ | refine blk_alloc ?_ _)); refine blk_put (cs := #[.int .i64 t251, .int .i64 t252, .int .u32 t253, .int .u32 t254, .int .i64 t255, .int .i64 0, .int .i64 0, .slice none 0 0, .slice none 0 0]) ?_ 5 _ rfl; (with_reducible repeat (first | refine blk_drewN ?_ _ | refine blk_drew ?_ | refine blk_alloc ?_ _)); refine blk_put (cs := #[.int .i64 t251, .int .i64 t252, .int .u32 t253, .int .u32 t254, .int .i64 0, .int .i64 0, .int .i64 0, .slice none 0 0, .slice none 0 0]) ?_ 4 _ rfl; (with_reducible repeat (first | refine blk_drewN ?_ _ | refine blk_drew ?_ | refine blk_alloc ?_ _)); refine blk_put (cs := #[.int .i64 t251, .int .i64 t252, .int .u32 t253, .int .u32 0, .int .i64 0, .int .i64 0, .int .i64 0, .slice none 0 0, .slice none 0 0]) ?_ 3 _ rfl; (with_reducible repeat (first | refine blk_drewN ?_ _ | refine blk_drew ?_ | refine blk_alloc ?_ _)); refine blk_put (cs := #[.int .i64 t251, .int .i64 t252, .int .u32 0, .int .u32 0, .int .i64 0, .int .i64 0, .int .i64 0, .slice none 0 0, .slice none 0 0]) ?_ 2 _ rfl; (with_reducible repeat (first | refine blk_drewN ?_ _ | refine blk_drew ?_ | refine blk_alloc ?_ _)); refine blk_put (cs := #[.int .i64 t251, .int .i64 0, .int .u32 0, .int .u32 0, .int .i64 0, .int .i64 0, .int .i64 0, .slice none 0 0, .slice none 0 0]) ?_ 1 _ rfl; (with_reducible repeat (first | refine blk_drewN ?_ _ | refine blk_drew ?_ | refine blk_alloc ?_ _)); refine blk_put (cs := #[.int .i64 0, .int .i64 0, .int .u32 0, .int .u32 0, .int .i64 0, .int .i64 0, .int .i64 0, .slice none 0 0, .slice none 0 0]) ?_ 0 _ rfl; (with_reducible repeat (first | refine blk_drewN ?_ _ | refine blk_drew ?_ | refine blk_alloc ?_ _)); exact BK265.out) hb); have n5_ := Aside0.mk (below_step (by repeat (first | (with_reducible first | exact HB.out | apply below_alloc | apply pw_below_drewN | apply below_drew1 | refine below_set ?_ GE240.out | refine below_set ?_ GE265.out) | exact HB.out)) hb); clear HO_5; clear HO260; clear HO263; clear BK240; clear BK265; clear HB; have HO_5 := n0_; have HO260 := n1_; have HO263 := n2_; have BK240 := n3_; have BK265 := n4_; have HB := n5_; clear n0_ n1_ n2_ n3_ n4_ n5_; (try clear hb); (try clear hb2); (try clear hk); (try clear hi)))
                        go_ret
                        exact ⟨by first | rfl | (simp [errW_none, errW_some] <;> rfl) | (simp only [← hji23]; first | rfl | (simp [errW_none, errW_some] <;> rfl)) | (simp [*, errW_none, errW_some] <;> rfl), by repeat (first | (with_reducible first | exact HB.out | apply below_alloc | apply pw_below_drewN | apply below_drew1 | refine below_set ?_ GE240.out | refine below_set ?_ GE265.out) | exact HB.out)⟩
                      · rw [if_neg c28] at H
                        have c28b0 : (t264 == 3) = false := beq_eq_false_iff_ne.mpr c28
                        have c28b1 : (t264 != 3) = true := bne_iff_ne.mpr c28
                        exact absurd (H.trans (congrArg some HRT.out)) (by simp)
                    · rw [if_neg c27] at H
                      have c27b0 : decide ((ji23) < (wrap64 (20 + (l0_7.length : Int)))) = false := decide_eq_false c27
                      clear c27
                      by_cases c40 : t264 = 0
                      · rw [if_pos c40] at H
                        have c40b0 : (t264 == 0) = true := beq_iff_eq.mpr c40
                        have c40b1 : (t264 != 0) = false := bne_eq_false_iff_eq.mpr c40
                        clear c40
                        by_cases c41 : (t261.length : Int) = (wrap64 ((ji23) - (wrap64 (20 + (l0_7.length : Int)))))
                        · rw [if_pos c41] at H
                          have c41b0 : ((t261.length : Int) == (wrap64 ((ji23) - (wrap64 (20 + (l0_7.length : Int)))))) = true := beq_iff_eq.mpr c41
                          have c41b1 : ((t261.length : Int) != (wrap64 ((ji23) - (wrap64 (20 + (l0_7.length : Int)))))) = false := bne_eq_false_iff_eq.mpr c41
                          clear c41
                          replace H := Option.bind_eq_some_iff.mp H
                          obtain ⟨t267, A420, H⟩ := H
                          replace H : (some t267) = some r := H
                          have A42 := Aside0.mk A420
                          clear A420
                          obtain rfl := Option.some.inj H
                          obtain ⟨Ao43, co43, eo43⟩ := Kd.R_slice HO_5.out
                          subst eo43
                          have q44 : ((ji23) : Int) ≤ ((t243.length : Int) : Int) := of_decide_eq_true (by first | (with_reducible assumption) | assumption)
                          obtain ⟨i044, hi044, _, hsz44, _⟩ := info_parts info5
                          have hroom44 : t243.length ≤ co43 := (Kd.R_reads' HO_5.out).2.1
                          have hC44 : Kd.C (Kd.int .u8) _ Ao43 t243.length t243 := (Kd.R_reads' HO_5.out).2.2
                          have hcut44 := cut_to (P := Try.prog) 25 5 .i64 Try.underlying25 hi044 Ao43 t243.length co43 (ji23) (of_decide_eq_true (by first | (with_reducible assumption) | assumption)) q44 hroom44
                          have hr44 := Kd.C_take (m := ((ji23) : Int).toNat) hC44 (by omega)
                          have hy44 : y247.length = ((ji23) : Int).toNat := (by rw [Ny247.out, List.length_take]; omega)
                          rw [← Ny247.out] at hr44
                          rw [← hy44] at hcut44
                          have HR250 := Aside0.mk hr44
                          have HC250 := Aside0.mk (show y247.length ≤ co43 from by omega)
                          clear hr44 hC44 hroom44 hi044 hsz44
                          have KY44 := Aside0.mk hy44
                          clear hy44
                          have KL44 := Aside0.mk (show ((ji23) : Int).toNat ≤ t243.length from by omega)
                          replace q44 := eq_true q44
                          go_wp2_with (first | ((with_reducible refine gate_callee (f := 21) rfl ?_); refine goesL_ (some 39) rfl rfl Try.func21 (by kernel_rfl) rfl #[.slice Ao43 y247.length co43] rfl (by (try simp only [List.map_toArray, List.map_cons, List.map_nil]); first | done | rfl | (simp only [List.length_drop, List.length_take]; rfl)) ?_; (with_reducible refine (tcp_Parse.calls kj15 _ _ y247 t251 t252 t253 t254 t255 t256 t257 t258 t261 t264 _ ?side1 ?side2 A26.out).mono ?_); (case side1 => repeat (first | exact (by repeat (first | (with_reducible exact HR250.out) | (with_reducible refine Kd.C_alloc ?_ _) | (with_reducible refine Kd.C_drewN ?_ _) | (with_reducible refine Kd.C_drew ?_) | exact HR250.out)) | (with_reducible refine Kd.C_alloc ?_ _) | (with_reducible refine Kd.C_drewN ?_ _) | (with_reducible refine Kd.C_drew ?_))); (case side2 => exact HC250.out); rintro e w45 ⟨v259, v262, rfl, ho0, ho1, hb⟩; refine ⟨_, rfl, ?_⟩; have n0_ := Aside0.mk (Kd.R_mono (Kd.R_told (Kd.R_told (Kd.R_old (by (with_reducible repeat (first | apply Kd.R_alloc | apply Kd.R_drewN | apply Kd.R_drew)); exact HO_5.out) hb) (Kd.R_base ho0)) (Kd.R_base ho1)) (fun _ h_ => h_.1)); have n1_ := Aside0.mk (Kd.R_lower (Kd.R_new' ho0 (Kd.R_lt (by (with_reducible repeat (first | apply Kd.R_alloc | apply Kd.R_drewN | apply Kd.R_drew)); exact HO_5.out))) (below_size (by repeat (first | (with_reducible first | exact HB.out | apply below_alloc | apply pw_below_drewN | apply below_drew1 | refine below_set ?_ GE240.out) | exact HB.out)))); have n2_ := Aside0.mk (Kd.R_lower (Kd.R_new' ho1 (Kd.R_lt (by (with_reducible repeat (first | apply Kd.R_alloc | apply Kd.R_drewN | apply Kd.R_drew)); exact HO_5.out))) (below_size (by repeat (first | (with_reducible first | exact HB.out | apply below_alloc | apply pw_below_drewN | apply below_drew1 | refine below_set ?_ GE240.out) | exact HB.out)))); have n3_ := Aside0.mk (blk_below (g := gb240) (o := .cells #[.int .i64 a0_0, .int .i64 a0_1, .int .u32 a0_2, .int .u32 a0_3, .int .i64 a0_4, .int .i64 a0_5, .int .i64 a0_6, .slice A0_7 l0_7.length c0_7, .slice A0_8 l0_8.length c0_8] 27 (0, 0)) (by (with_reducible repeat (first | refine blk_drewN ?_ _ | refine blk_drew ?_ | refine blk_alloc ?_ _)); exact BK240.out) hb); have n4_ := Aside0.mk (Kd.C_below (by repeat (first | (with_reducible exact HR250.out) | (with_reducible refine Kd.C_alloc ?_ _) | (with_reducible refine Kd.C_drewN ?_ _) | (with_reducible refine Kd.C_drew ?_) | exact HR250.out)) hb); have n5_ := Aside0.mk (below_step (by repeat (first | (with_reducible first | exact HB.out | apply below_alloc | apply pw_below_drewN | apply below_drew1 | refine below_set ?_ GE240.out) | exact HB.out)) hb); clear HO_5; clear BK240; clear HR250; clear HB; have HO_5 := n0_; have HO260 := n1_; have HO263 := n2_; have BK240 := n3_; have HR250 := n4_; have HB := n5_; clear n0_ n1_ n2_ n3_ n4_ n5_; (try clear hb); (try clear hb2); (try clear hk); (try clear hi); (try clear ho0); (try clear ho1)) | ((with_reducible refine gate_dst (N := 8) rfl ?_); (try (refine gate_guard (by rfl) ?_; dsimp only)); refine box_event ?hg (N := 8) ?hd (cs := #[.int .i64 0, .int .i64 0, .int .u32 0, .int .u32 0, .int .i64 0, .int .i64 0, .int .i64 0, .slice none 0 0, .slice none 0 0]) (t := 27) ?hr ?_; (case hd => rfl); (case hg => rfl); (case hr => first | (go_simp; done) | (go_simp; rfl)); intro gb265 hg w46 hbox hb; have n0_ := Aside0.mk (Kd.R_below (by (with_reducible repeat (first | apply Kd.R_alloc | apply Kd.R_drewN | apply Kd.R_drew)); exact HO_5.out) hb); have n1_ := Aside0.mk (Kd.R_below (by (with_reducible repeat (first | apply Kd.R_alloc | apply Kd.R_drewN | apply Kd.R_drew)); exact HO260.out) hb); have n2_ := Aside0.mk (Kd.R_below (by (with_reducible repeat (first | apply Kd.R_alloc | apply Kd.R_drewN | apply Kd.R_drew)); exact HO263.out) hb); have n3_ := Aside0.mk (blk_below (g := gb240) (o := .cells #[.int .i64 a0_0, .int .i64 a0_1, .int .u32 a0_2, .int .u32 a0_3, .int .i64 a0_4, .int .i64 a0_5, .int .i64 a0_6, .slice A0_7 l0_7.length c0_7, .slice A0_8 l0_8.length c0_8] 27 (0, 0)) (by (with_reducible repeat (first | refine blk_drewN ?_ _ | refine blk_drew ?_ | refine blk_alloc ?_ _)); exact BK240.out) hb); have n4_ := Aside0.mk (Kd.C_below (by repeat (first | (with_reducible exact HR250.out) | (with_reducible refine Kd.C_alloc ?_ _) | (with_reducible refine Kd.C_drewN ?_ _) | (with_reducible refine Kd.C_drew ?_) | exact HR250.out)) hb); have n5_ := Aside0.mk (below_step (by repeat (first | (with_reducible first | exact HB.out | apply below_alloc | apply pw_below_drewN | apply below_drew1 | refine below_set ?_ GE240.out) | exact HB.out)) hb); have n6_ := Aside0.mk (hbox); have n7_ := Aside0.mk ((by rw [hg]; exact (below_size (by repeat (first | (with_reducible first | exact HB.out | apply below_alloc | apply pw_below_drewN | apply below_drew1 | refine below_set ?_ GE240.out) | exact HB.out))) : w.heap.size ≤ gb265)); have n8_ := Aside0.mk ((by rw [hg]; exact (below_size (by repeat (first | (with_reducible first | exact HB.out | apply below_alloc | apply pw_below_drewN | apply below_drew1 | refine below_set ?_ GE240.out) | exact HB.out))) : w.heap.size ≤ gb265)); have n9_ := Aside0.mk ((by rw [hg]; exact Nat.ne_of_lt (blk_lt (g := gb240) (o := .cells #[.int .i64 a0_0, .int .i64 a0_1, .int .u32 a0_2, .int .u32 a0_3, .int .i64 a0_4, .int .i64 a0_5, .int .i64 a0_6, .slice A0_7 l0_7.length c0_7, .slice A0_8 l0_8.length c0_8] 27 (0, 0)) (by (with_reducible repeat (first | refine blk_drewN ?_ _ | refine blk_drew ?_ | refine blk_alloc ?_ _)); exact BK240.out)) : gb240 ≠ gb265)); have n10_ := Aside0.mk ((by rw [hg]; exact Nat.ne_of_gt (blk_lt (g := gb240) (o := .cells #[.int .i64 a0_0, .int .i64 a0_1, .int .u32 a0_2, .int .u32 a0_3, .int .i64 a0_4, .int .i64 a0_5, .int .i64 a0_6, .slice A0_7 l0_7.length c0_7, .slice A0_8 l0_8.length c0_8] 27 (0, 0)) (by (with_reducible repeat (first | refine blk_drewN ?_ _ | refine blk_drew ?_ | refine blk_alloc ?_ _)); exact BK240.out)) : gb265 ≠ gb240)); clear HO_5; clear HO260; clear HO263; clear BK240; clear HR250; clear HB; have HO_5 := n0_; have HO260 := n1_; have HO263 := n2_; have BK240 := n3_; have HR250 := n4_; have HB := n5_; have BK265 := n6_; have GW265 := n7_; have GE265 := n8_; have NB240_265 := n9_; have NB265_240 := n10_; clear n0_ n1_ n2_ n3_ n4_ n5_ n6_ n7_ n8_ n9_ n10_; clear hb hbox hg; have hnb47 := NB265_240.out; have hnc47 := NB240_265.out; have hcz48_0 : w46.cell? ⟨gb265, 0, none⟩ = some (.int .i64 0) := (blk_cell BK265.out 0).trans rfl; have hcz48_1 : w46.cell? ⟨gb265, 1, none⟩ = some (.int .i64 0) := (blk_cell BK265.out 1).trans rfl; have hcz48_2 : w46.cell? ⟨gb265, 2, none⟩ = some (.int .u32 0) := (blk_cell BK265.out 2).trans rfl; have hcz48_3 : w46.cell? ⟨gb265, 3, none⟩ = some (.int .u32 0) := (blk_cell BK265.out 3).trans rfl; have hcz48_4 : w46.cell? ⟨gb265, 4, none⟩ = some (.int .i64 0) := (blk_cell BK265.out 4).trans rfl; have hcz48_5 : w46.cell? ⟨gb265, 5, none⟩ = some (.int .i64 0) := (blk_cell BK265.out 5).trans rfl; have hcz48_6 : w46.cell? ⟨gb265, 6, none⟩ = some (.int .i64 0) := (blk_cell BK265.out 6).trans rfl; have hcz48_7 : w46.cell? ⟨gb265, 7, none⟩ = some (.slice none 0 0) := (blk_cell BK265.out 7).trans rfl; have hcz48_8 : w46.cell? ⟨gb265, 8, none⟩ = some (.slice none 0 0) := (blk_cell BK265.out 8).trans rfl; have hfz48_0 := blk_frozen BK265.out 0; have hfz48_1 := blk_frozen BK265.out 1; have hfz48_2 := blk_frozen BK265.out 2; have hfz48_3 := blk_frozen BK265.out 3; have hfz48_4 := blk_frozen BK265.out 4; have hfz48_5 := blk_frozen BK265.out 5; have hfz48_6 := blk_frozen BK265.out 6; have hfz48_7 := blk_frozen BK265.out 7; have hfz48_8 := blk_frozen BK265.out 8; obtain ⟨Ao49, co49, eo49⟩ := Kd.R_slice HO260.out; subst eo49; obtain ⟨Ao50, co50, eo50⟩ := Kd.R_slice HO263.out; subst eo50; have hcz51_0 : w46.cell? ⟨gb240, 0, none⟩ = some (.int .i64 a0_0) := (blk_cell BK240.out 0).trans rfl; have hcz51_1 : w46.cell? ⟨gb240, 1, none⟩ = some (.int .i64 a0_1) := (blk_cell BK240.out 1).trans rfl; have hcz51_2 : w46.cell? ⟨gb240, 2, none⟩ = some (.int .u32 a0_2) := (blk_cell BK240.out 2).trans rfl; have hcz51_3 : w46.cell? ⟨gb240, 3, none⟩ = some (.int .u32 a0_3) := (blk_cell BK240.out 3).trans rfl; have hcz51_4 : w46.cell? ⟨gb240, 4, none⟩ = some (.int .i64 a0_4) := (blk_cell BK240.out 4).trans rfl; have hcz51_5 : w46.cell? ⟨gb240, 5, none⟩ = some (.int .i64 a0_5) := (blk_cell BK240.out 5).trans rfl; have hcz51_6 : w46.cell? ⟨gb240, 6, none⟩ = some (.int .i64 a0_6) := (blk_cell BK240.out 6).trans rfl; have hcz51_7 : w46.cell? ⟨gb240, 7, none⟩ = some (.slice A0_7 l0_7.length c0_7) := (blk_cell BK240.out 7).trans rfl; have hcz51_8 : w46.cell? ⟨gb240, 8, none⟩ = some (.slice A0_8 l0_8.length c0_8) := (blk_cell BK240.out 8).trans rfl; have hfz51_0 := blk_frozen BK240.out 0; have hfz51_1 := blk_frozen BK240.out 1; have hfz51_2 := blk_frozen BK240.out 2; have hfz51_3 := blk_frozen BK240.out 3; have hfz51_4 := blk_frozen BK240.out 4; have hfz51_5 := blk_frozen BK240.out 5; have hfz51_6 := blk_frozen BK240.out 6; have hfz51_7 := blk_frozen BK240.out 7; have hfz51_8 := blk_frozen BK240.out 8) | (go_at_call 19; (with_reducible refine (castellanlaw5_known.calls kj15  t267 _ A42.out).mono ?_); rintro e w52 ⟨rfl, hb⟩; have n0_ := Aside0.mk (Kd.R_below (by (with_reducible repeat (first | apply Kd.R_alloc | apply Kd.R_drewN | apply Kd.R_drew)); exact (Kd.R_mono (Kd.R_far (p := ⟨gb265, 8, none⟩) (Kd.R_far (p := ⟨gb265, 7, none⟩) (Kd.R_far (p := ⟨gb265, 6, none⟩) (Kd.R_far (p := ⟨gb265, 5, none⟩) (Kd.R_far (p := ⟨gb265, 4, none⟩) (Kd.R_far (p := ⟨gb265, 3, none⟩) (Kd.R_far (p := ⟨gb265, 2, none⟩) (Kd.R_far (p := ⟨gb265, 1, none⟩) (Kd.R_far (p := ⟨gb265, 0, none⟩) (Kd.R_types HO_5.out BK265.out (by decide)) (fun _ hk => hk.2) (.int .i64 t251)) (fun _ hk => hk.2) (.int .i64 t252)) (fun _ hk => hk.2) (.int .u32 t253)) (fun _ hk => hk.2) (.int .u32 t254)) (fun _ hk => hk.2) (.int .i64 t255)) (fun _ hk => hk.2) (.int .i64 t256)) (fun _ hk => hk.2) (.int .i64 t257)) (fun _ hk => hk.2) (.slice Ao49 t258.length co49)) (fun _ hk => hk.2) (.slice Ao50 t261.length co50)) (fun _ h_ => h_.1))) hb); have n1_ := Aside0.mk (Kd.R_below (by (with_reducible repeat (first | apply Kd.R_alloc | apply Kd.R_drewN | apply Kd.R_drew)); exact (Kd.R_mono (Kd.R_far (p := ⟨gb265, 8, none⟩) (Kd.R_far (p := ⟨gb265, 7, none⟩) (Kd.R_far (p := ⟨gb265, 6, none⟩) (Kd.R_far (p := ⟨gb265, 5, none⟩) (Kd.R_far (p := ⟨gb265, 4, none⟩) (Kd.R_far (p := ⟨gb265, 3, none⟩) (Kd.R_far (p := ⟨gb265, 2, none⟩) (Kd.R_far (p := ⟨gb265, 1, none⟩) (Kd.R_far (p := ⟨gb265, 0, none⟩) (Kd.R_types HO260.out BK265.out (by decide)) (fun _ hk => hk.2) (.int .i64 t251)) (fun _ hk => hk.2) (.int .i64 t252)) (fun _ hk => hk.2) (.int .u32 t253)) (fun _ hk => hk.2) (.int .u32 t254)) (fun _ hk => hk.2) (.int .i64 t255)) (fun _ hk => hk.2) (.int .i64 t256)) (fun _ hk => hk.2) (.int .i64 t257)) (fun _ hk => hk.2) (.slice Ao49 t258.length co49)) (fun _ hk => hk.2) (.slice Ao50 t261.length co50)) (fun _ h_ => h_.1))) hb); have n2_ := Aside0.mk (Kd.R_below (by (with_reducible repeat (first | apply Kd.R_alloc | apply Kd.R_drewN | apply Kd.R_drew)); exact (Kd.R_mono (Kd.R_far (p := ⟨gb265, 8, none⟩) (Kd.R_far (p := ⟨gb265, 7, none⟩) (Kd.R_far (p := ⟨gb265, 6, none⟩) (Kd.R_far (p := ⟨gb265, 5, none⟩) (Kd.R_far (p := ⟨gb265, 4, none⟩) (Kd.R_far (p := ⟨gb265, 3, none⟩) (Kd.R_far (p := ⟨gb265, 2, none⟩) (Kd.R_far (p := ⟨gb265, 1, none⟩) (Kd.R_far (p := ⟨gb265, 0, none⟩) (Kd.R_types HO263.out BK265.out (by decide)) (fun _ hk => hk.2) (.int .i64 t251)) (fun _ hk => hk.2) (.int .i64 t252)) (fun _ hk => hk.2) (.int .u32 t253)) (fun _ hk => hk.2) (.int .u32 t254)) (fun _ hk => hk.2) (.int .i64 t255)) (fun _ hk => hk.2) (.int .i64 t256)) (fun _ hk => hk.2) (.int .i64 t257)) (fun _ hk => hk.2) (.slice Ao49 t258.length co49)) (fun _ hk => hk.2) (.slice Ao50 t261.length co50)) (fun _ h_ => h_.1))) hb); have n3_ := Aside0.mk (blk_below (g := gb240) (o := .cells #[.int .i64 a0_0, .int .i64 a0_1, .int .u32 a0_2, .int .u32 a0_3, .int .i64 a0_4, .int .i64 a0_5, .int .i64 a0_6, .slice A0_7 l0_7.length c0_7, .slice A0_8 l0_8.length c0_8] 27 (0, 0)) (by (with_reducible repeat (first | refine blk_drewN ?_ _ | refine blk_drew ?_ | refine blk_alloc ?_ _)); refine blk_far ?_ NB240_265.out _; (with_reducible repeat (first | refine blk_drewN ?_ _ | refine blk_drew ?_ | refine blk_alloc ?_ _)); refine blk_far ?_ NB240_265.out _; (with_reducible repeat (first | refine blk_drewN ?_ _ | refine blk_drew ?_ | refine blk_alloc ?_ _)); refine blk_far ?_ NB240_265.out _; (with_reducible repeat (first | refine blk_drewN ?_ _ | refine blk_drew ?_ | refine blk_alloc ?_ _)); refine blk_far ?_ NB240_265.out _; (with_reducible repeat (first | refine blk_drewN ?_ _ | refine blk_drew ?_ | refine blk_alloc ?_ _)); refine blk_far ?_ NB240_265.out _; (with_reducible repeat (first | refine blk_drewN ?_ _ | refine blk_drew ?_ | refine blk_alloc ?_ _)); refine blk_far ?_ NB240_265.out _; (with_reducible repeat (first | refine blk_drewN ?_ _ | refine blk_drew ?_ | refine blk_alloc ?_ _)); refine blk_far ?_ NB240_265.out _; (with_reducible repeat (first | refine blk_drewN ?_ _ | refine blk_drew ?_ | refine blk_alloc ?_ _)); refine blk_far ?_ NB240_265.out _; (with_reducible repeat (first | refine blk_drewN ?_ _ | refine blk_drew ?_ | refine blk_alloc ?_ _)); refine blk_far ?_ NB240_265.out _; (with_reducible repeat (first | refine blk_drewN ?_ _ | refine blk_drew ?_ | refine blk_alloc ?_ _)); exact BK240.out) hb); have n4_ := Aside0.mk (blk_below (g := gb265) (o := .cells #[.int .i64 t251, .int .i64 t252, .int .u32 t253, .int .u32 t254, .int .i64 t255, .int .i64 t256, .int .i64 t257, .slice Ao49 t258.length co49, .slice Ao50 t261.length co50] 27 (0, 0)) (by (with_reducible repeat (first | refine blk_drewN ?_ _ | refine blk_drew ?_ | refine blk_alloc ?_ _)); refine blk_put (cs := #[.int .i64 t251, .int .i64 t252, .int .u32 t253, .int .u32 t254, .int .i64 t255, .int .i64 t256, .int .i64 t257, .slice Ao49 t258.length co49, .slice none 0 0]) ?_ 8 _ rfl; (with_reducible repeat (first | refine blk_drewN ?_ _ | refine blk_drew ?_ | refine blk_alloc ?_ _)); refine blk_put (cs := #[.int .i64 t251, .int .i64 t252, .int .u32 t253, .int .u32 t254, .int .i64 t255, .int .i64 t256, .int .i64 t257, .slice none 0 0, .slice none 0 0]) ?_ 7 _ rfl; (with_reducible repeat (first | refine blk_drewN ?_ _ | refine blk_drew ?_ | refine blk_alloc ?_ _)); refine blk_put (cs := #[.int .i64 t251, .int .i64 t252, .int .u32 t253, .int .u32 t254, .int .i64 t255, .int .i64 t256, .int .i64 0, .slice none 0 0, .slice none 0 0]) ?_ 6 _ rfl; (with_reducible repeat (first | refine blk_drewN ?_ _ | refine blk_drew ?_ | refine blk_alloc ?_ _)); refine blk_put (cs := #[.int .i64 t251, .int .i64 t252, .int .u32 t253, .int .u32 t254, .int .i64 t255, .int .i64 0, .int .i64 0, .slice none 0 0, .slice none 0 0]) ?_ 5 _ rfl; (with_reducible repeat (first | refine blk_drewN ?_ _ | refine blk_drew ?_ | refine blk_alloc ?_ _)); refine blk_put (cs := #[.int .i64 t251, .int .i64 t252, .int .u32 t253, .int .u32 t254, .int .i64 0, .int .i64 0, .int .i64 0, .slice none 0 0, .slice none 0 0]) ?_ 4 _ rfl; (with_reducible repeat (first | refine blk_drewN ?_ _ | refine blk_drew ?_ | refine blk_alloc ?_ _)); refine blk_put (cs := #[.int .i64 t251, .int .i64 t252, .int .u32 t253, .int .u32 0, .int .i64 0, .int .i64 0, .int .i64 0, .slice none 0 0, .slice none 0 0]) ?_ 3 _ rfl; (with_reducible repeat (first | refine blk_drewN ?_ _ | refine blk_drew ?_ | refine blk_alloc ?_ _)); refine blk_put (cs := #[.int .i64 t251, .int .i64 t252, .int .u32 0, .int .u32 0, .int .i64 0, .int .i64 0, .int .i64 0, .slice none 0 0, .slice none 0 0]) ?_ 2 _ rfl; (with_reducible repeat (first | refine blk_drewN ?_ _ | refine blk_drew ?_ | refine blk_alloc ?_ _)); refine blk_put (cs := #[.int .i64 t251, .int .i64 0, .int .u32 0, .int .u32 0, .int .i64 0, .int .i64 0, .int .i64 0, .slice none 0 0, .slice none 0 0]) ?_ 1 _ rfl; (with_reducible repeat (first | refine blk_drewN ?_ _ | refine blk_drew ?_ | refine blk_alloc ?_ _)); refine blk_put (cs := #[.int .i64 0, .int .i64 0, .int .u32 0, .int .u32 0, .int .i64 0, .int .i64 0, .int .i64 0, .slice none 0 0, .slice none 0 0]) ?_ 0 _ rfl; (with_reducible repeat (first | refine blk_drewN ?_ _ | refine blk_drew ?_ | refine blk_alloc ?_ _)); exact BK265.out) hb); have n5_ := Aside0.mk (below_step (by repeat (first | (with_reducible first | exact HB.out | apply below_alloc | apply pw_below_drewN | apply below_drew1 | refine below_set ?_ GE240.out | refine below_set ?_ GE265.out) | exact HB.out)) hb); clear HO_5; clear HO260; clear HO263; clear BK240; clear BK265; clear HB; have HO_5 := n0_; have HO260 := n1_; have HO263 := n2_; have BK240 := n3_; have BK265 := n4_; have HB := n5_; clear n0_ n1_ n2_ n3_ n4_ n5_; (try clear hb); (try clear hb2); (try clear hk); (try clear hi)))
                          go_ret
                          exact ⟨by first | rfl | (simp [errW_none, errW_some] <;> rfl) | (simp only [← hji23]; first | rfl | (simp [errW_none, errW_some] <;> rfl)) | (simp [*, errW_none, errW_some] <;> rfl), by repeat (first | (with_reducible first | exact HB.out | apply below_alloc | apply pw_below_drewN | apply below_drew1 | refine below_set ?_ GE240.out | refine below_set ?_ GE265.out) | exact HB.out)⟩
                        · rw [if_neg c41] at H
                          have c41b0 : ((t261.length : Int) == (wrap64 ((ji23) - (wrap64 (20 + (l0_7.length : Int)))))) = false := beq_eq_false_iff_ne.mpr c41
                          have c41b1 : ((t261.length : Int) != (wrap64 ((ji23) - (wrap64 (20 + (l0_7.length : Int)))))) = true := bne_iff_ne.mpr c41
                          exact absurd (H.trans (congrArg some HRT.out)) (by simp)
                      · rw [if_neg c40] at H
                        have c40b0 : (t264 == 0) = false := beq_eq_false_iff_ne.mpr c40
                        have c40b1 : (t264 != 0) = true := bne_iff_ne.mpr c40
                        exact absurd (H.trans (congrArg some HRT.out)) (by simp)
                  · rw [if_neg c25] at H
                    exact absurd H (by simp)
                · rw [if_neg c24] at H
                  exact absurd H (by simp)

/-- THE ONE PURE STATEMENT of castellanlaw5_TcpCut: yours. -/
def castellanlaw5_TcpCut.Pure : Prop := ∀ (a0_0 : Int) (a0_1 : Int) (a0_2 : Int) (a0_3 : Int) (a0_4 : Int) (a0_5 : Int) (a0_6 : Int) (l0_7 : List Int) (l0_8 : List Int) (a1 : Int), (Lit.int .i64 a0_0).wf = true → (Lit.int .i64 a0_1).wf = true → (Lit.int .u32 a0_2).wf = true → (Lit.int .u32 a0_3).wf = true → (Lit.int .i64 a0_4).wf = true → (Lit.int .i64 a0_5).wf = true → (Lit.int .i64 a0_6).wf = true → l0_7.length ≤ maxLen → l0_7.length * 1 ≤ 140737488351232 → (∀ x ∈ l0_7, (Lit.int .u8 x).wf = true) → l0_8.length ≤ maxLen → l0_8.length * 1 ≤ 140737488351232 → (∀ x ∈ l0_8, (Lit.int .u8 x).wf = true) → (Lit.int .i64 a1).wf = true → ∃ k, castellanlaw5_TcpCut.f k a0_0 a0_1 a0_2 a0_3 a0_4 a0_5 a0_6 l0_7 l0_8 a1 = some true
theorem castellanlaw5_TcpCut.walk (P : castellanlaw5_TcpCut.Pure) (a0_0 : Int) (a0_1 : Int) (a0_2 : Int) (a0_3 : Int) (a0_4 : Int) (a0_5 : Int) (a0_6 : Int) (a0_7 : Option Addr) (len0_7 cap0_7 : Nat) (z0_7 : List Int) (a0_8 : Option Addr) (len0_8 cap0_8 : Nat) (z0_8 : List Int) (a1 : Int) (w : World) (w0_0 : (Lit.int .i64 a0_0).wf = true) (w0_1 : (Lit.int .i64 a0_1).wf = true) (w0_2 : (Lit.int .u32 a0_2).wf = true) (w0_3 : (Lit.int .u32 a0_3).wf = true) (w0_4 : (Lit.int .i64 a0_4).wf = true) (w0_5 : (Lit.int .i64 a0_5).wf = true) (w0_6 : (Lit.int .i64 a0_6).wf = true) (w0_7 : (a0_7 = none ∧ len0_7 = 0 ∧ cap0_7 = 0 ∧ z0_7 = []) ∨ ∃ x, a0_7 = some x ∧ len0_7 ≤ cap0_7 ∧ cap0_7 ≤ maxLen ∧ z0_7.length = cap0_7 ∧ (∀ i, i < z0_7.length → w.cell? (x.add i) = some (.int .u8 (z0_7.getD i 0))) ∧ ∀ n ∈ z0_7, (Lit.int .u8 n).wf = true) (y0_7 : len0_7 * 1 ≤ 140737488351232) (w0_8 : (a0_8 = none ∧ len0_8 = 0 ∧ cap0_8 = 0 ∧ z0_8 = []) ∨ ∃ x, a0_8 = some x ∧ len0_8 ≤ cap0_8 ∧ cap0_8 ≤ maxLen ∧ z0_8.length = cap0_8 ∧ (∀ i, i < z0_8.length → w.cell? (x.add i) = some (.int .u8 (z0_8.getD i 0))) ∧ ∀ n ∈ z0_8, (Lit.int .u8 n).wf = true) (y0_8 : len0_8 * 1 ≤ 140737488351232) (w1 : (Lit.int .i64 a1).wf = true) :
    Calls Try.prog 13 #[.agg #[.int .i64 a0_0, .int .i64 a0_1, .int .u32 a0_2, .int .u32 a0_3, .int .i64 a0_4, .int .i64 a0_5, .int .i64 a0_6, .slice a0_7 len0_7 cap0_7, .slice a0_8 len0_8 cap0_8], .int .i64 a1] w fun e w' => e = .returned (.bool true) ∧ Below w.heap.size w w' := by
  obtain ⟨l0_7, rfl, hr0_7, hm0_7, hw0_7, hc0_7⟩ := ReadsInt.ofRowC w0_7
  obtain ⟨l0_8, rfl, hr0_8, hm0_8, hw0_8, hc0_8⟩ := ReadsInt.ofRowC w0_8
  obtain ⟨k, h⟩ := P a0_0 a0_1 a0_2 a0_3 a0_4 a0_5 a0_6 l0_7 l0_8 a1 w0_0 w0_1 w0_2 w0_3 w0_4 w0_5 w0_6 hm0_7 y0_7 hw0_7 hm0_8 y0_8 hw0_8 w1
  refine (castellanlaw5_TcpCut.calls k a0_0 a0_1 a0_2 a0_3 a0_4 a0_5 a0_6 _ _ l0_7 _ _ l0_8 a1 true w (Kd.C_of_reads (d := (0 : Int)) (h1 := fun _ => rfl) hr0_7) hc0_7 (Kd.C_of_reads (d := (0 : Int)) (h1 := fun _ => rfl) hr0_8) hc0_8 rfl h).mono ?_
  rintro e w' ⟨rfl, hd⟩
  exact ⟨rfl, hd⟩

end Go.Proofs.Ytbenimfjhcbplaa.QTcpCut
