-- written by myprint.py, a program of this session's over the kit's printer
import Derived.Test.YtbenimfjhcbplaaQTcpBackx0
import Derived.Test.YtbenimfjhcbplaaQTcpBackx1
namespace Go.Proofs.Ytbenimfjhcbplaa.QTcpBack
open Go.RowKit Go.Proofs.YtbenimfjhcbplaaW.PrintWords Go.Proofs.YtbenimfjhcbplaaW.PrintLast Go.Proofs.YtbenimfjhcbplaaW.PrintMore
attribute [local go_sem] max2_int min2_int max_two min_two max_three min_three max_four min_four   -- for this text's walks alone
set_option linter.unusedVariables false
set_option linter.unusedSimpArgs false

/-! ### tcp_Parse: function 21 -/
def tcp_Parse.f (k : Nat) (l0 : List Int) : Option (Int × Int × Int × Int × Int × Int × Int × List Int × List Int × Int) := if (l0.length : Int) < 20 then (some (0, 0, 0, 0, 0, 0, 0, ([] : List Int), ([] : List Int), 3)) else (if 12 < (l0.length : Int) then (if (l0.length : Int) < (wrap64 ((wrap64 ((rd l0 12) / 16)) * 4)) then (some (0, 0, 0, 0, 0, 0, 0, ([] : List Int), ([] : List Int), 3)) else (if (wrap64 ((wrap64 ((rd l0 12) / 16)) * 4)) < 20 then (some (0, 0, 0, 0, 0, 0, 0, ([] : List Int), ([] : List Int), 2)) else ((word_Get16.f l0 0).bind fun t136 => ((word_Get16.f l0 2).bind fun t137 => ((word_Get32.f k l0 4).bind fun t138 => ((word_Get32.f k l0 8).bind fun t139 => (if 13 < (l0.length : Int) then ((word_Get16.f l0 14).bind fun t141 => ((word_Get16.f l0 18).bind fun t142 => (if 20 ≤ (wrap64 ((wrap64 ((rd l0 12) / 16)) * 4)) then (if (wrap64 ((wrap64 ((rd l0 12) / 16)) * 4)) ≤ (l0.length : Int) then ((bytes_Clone.f ((l0.take ((wrap64 ((wrap64 ((rd l0 12) / 16)) * 4)) : Int).toNat).drop 20)).bind fun t144 => (if 0 ≤ (wrap64 ((wrap64 ((rd l0 12) / 16)) * 4)) then ((bytes_Clone.f (l0.drop ((wrap64 ((wrap64 ((rd l0 12) / 16)) * 4)) : Int).toNat)).bind fun t148 => (some (t136, t137, t138, t139, wrap64 (Go.bits .and .u8 (rd l0 13) 63), t141, t142, t144, t148, 0))) else (none))) else (none)) else (none)))) else (none)))))))) else (none))
theorem tcp_Parse.mono : ∀ a0 k, LeO (tcp_Parse.f k a0) (tcp_Parse.f (k + 1) a0) := by
  intro a0 k
  unfold tcp_Parse.f
  repeat' first
      | (with_reducible exact word_Get32.mono _ _ _)
      | (with_reducible exact LeO.refl _)
      | (with_reducible exact LeO.none _)
      | (with_reducible refine LeO.ite ?_ ?_)
      | (with_reducible refine LeO.bind ?_ (fun _ => ?_))
      | exact word_Get32.mono _ _ _
      | exact LeO.none _
      | refine LeO.ite ?_ ?_
      | refine LeO.bind ?_ (fun _ => ?_)
def tcp_Parse.T8 : Bool × List (List Nat × List Nat) := (true, [([], []), ([0], [0]), ([], []), ([2, 1], [2]), ([], []), ([4, 3], [4]), ([], []), ([6, 5], [6]), ([], []), ([8], [8]), ([9], [9]), ([10], [10]), ([11], [11]), ([], []), ([13, 7], [13]), ([], []), ([15, 14], [15]), ([], []), ([], []), ([17, 18], [17, 18]), ([19, 16], [19]), ([], []), ([], []), ([21, 22], [21, 22]), ([23, 20], [23]), ([1, 3, 5, 7, 12, 14, 16, 20, 24], [1, 3, 5, 7, 12, 14, 16, 20, 24]), ([25, 24, 0, 1, 2, 3, 4, 5, 6, 7, 8, 9, 10, 11, 12, 13, 14, 15, 16, 17, 18, 19, 20, 21, 22, 23, 24, 25], [25]), ([26, 0, 1, 2, 3, 4, 5, 6, 7, 8, 9, 10, 11, 12, 13, 14, 15, 16, 17, 18, 19, 20, 21, 22, 23, 24, 25, 26], [])])
def tcp_Parse.B8 : List Nat := [0, 1, 0, 7, 0, 31, 0, 127, 0, 256, 768, 1792, 3840, 0, 8447, 0, 57599, 0, 0, 393216, 1040639, 0, 0, 6291456, 16769279, 33554431, 67108863, 134217727]
theorem tcp_Parse.tab8 : rtab .any (opsOf Try.f21 8) = tcp_Parse.T8 := by kernel_rfl
theorem tcp_Parse.bits8 : waitsOk tcp_Parse.T8.2 tcp_Parse.B8 = true := by kernel_rfl
set_option maxHeartbeats 8000000 in
set_option maxRecDepth 100000 in
theorem tcp_Parse.calls (k : Nat) (A0 : Option Addr) (c0 : Nat) (l0 : List Int) (r1 : Int) (r2 : Int) (r3 : Int) (r4 : Int) (r5 : Int) (r6 : Int) (r7 : Int) (r8 : List Int) (r9 : List Int) (r10 : Int) (w : World) (hr0 : Kd.C (Kd.int .u8) w A0 l0.length l0) (hc0 : l0.length ≤ c0) (h : tcp_Parse.f k l0 = some (r1, r2, r3, r4, r5, r6, r7, r8, r9, r10)) :
    Calls Try.prog 21 #[.slice A0 l0.length c0] w fun e w' => ∃ v7_ v8_ : Value, e = .returned (.tuple #[.agg #[.int .i64 r1, .int .i64 r2, .int .u32 r3, .int .u32 r4, .int .i64 r5, .int .i64 r6, .int .i64 r7, v7_, v8_], .int .i64 r10]) ∧ Kd.R (Kd.int .u8) 5 w' w.heap.size (fun k_ => some k_ ≠ (v8_ : Value).ownBlock) v7_ r8 ∧ Kd.R (Kd.int .u8) 5 w' w.heap.size (fun k_ => some k_ ≠ (v7_ : Value).ownBlock) v8_ r9 ∧ Below w.heap.size w w' := by
  have hu27 := Try.underlying27
  have HR0 := Aside0.mk hr0
  have HC0 := Aside0.mk hc0
  clear hr0 hc0
  have HB := Aside0.mk (Below.refl w.heap.size w)
  have H : (if (l0.length : Int) < 20 then (some (0, 0, 0, 0, 0, 0, 0, ([] : List Int), ([] : List Int), 3)) else (if 12 < (l0.length : Int) then (if (l0.length : Int) < (wrap64 ((wrap64 ((rd l0 12) / 16)) * 4)) then (some (0, 0, 0, 0, 0, 0, 0, ([] : List Int), ([] : List Int), 3)) else (if (wrap64 ((wrap64 ((rd l0 12) / 16)) * 4)) < 20 then (some (0, 0, 0, 0, 0, 0, 0, ([] : List Int), ([] : List Int), 2)) else ((word_Get16.f l0 0).bind fun t136 => ((word_Get16.f l0 2).bind fun t137 => ((word_Get32.f k l0 4).bind fun t138 => ((word_Get32.f k l0 8).bind fun t139 => (if 13 < (l0.length : Int) then ((word_Get16.f l0 14).bind fun t141 => ((word_Get16.f l0 18).bind fun t142 => (if 20 ≤ (wrap64 ((wrap64 ((rd l0 12) / 16)) * 4)) then (if (wrap64 ((wrap64 ((rd l0 12) / 16)) * 4)) ≤ (l0.length : Int) then ((bytes_Clone.f ((l0.take ((wrap64 ((wrap64 ((rd l0 12) / 16)) * 4)) : Int).toNat).drop 20)).bind fun t144 => (if 0 ≤ (wrap64 ((wrap64 ((rd l0 12) / 16)) * 4)) then ((bytes_Clone.f (l0.drop ((wrap64 ((wrap64 ((rd l0 12) / 16)) * 4)) : Int).toNat)).bind fun t148 => (some (t136, t137, t138, t139, wrap64 (Go.bits .and .u8 (rd l0 13) 63), t141, t142, t144, t148, 0))) else (none))) else (none)) else (none)))) else (none)))))))) else (none))) = some (r1, r2, r3, r4, r5, r6, r7, r8, r9, r10) := h
  clear h
  by_cases c2 : (l0.length : Int) < 20
  · rw [if_pos c2] at H
    have c2b0 : decide ((l0.length : Int) < 20) = true := decide_eq_true c2
    have c2b1 : decide (l0.length < 20) = true := decide_eq_true (by omega)
    clear c2
    simp only [Option.some.injEq, Prod.mk.injEq] at H
    obtain ⟨rfl, rfl, rfl, rfl, rfl, rfl, rfl, rfl, rfl, rfl⟩ := H
    go_enter Try.func21, Try.ntmps21
    go_wp2_with (first | ((with_reducible refine gate_dst (N := 2) rfl ?_); refine box_event ?hg (N := 2) ?hd (cs := #[.int .i64 0, .int .i64 0, .int .u32 0, .int .u32 0, .int .i64 0, .int .i64 0, .int .i64 0, .slice none 0 0, .slice none 0 0]) (t := 27) ?hr ?_; (case hd => rfl); (case hg => rfl); (case hr => first | (go_simp; done) | (go_simp; rfl)); intro gb134 hg w3 hbox hb; have n0_ := Aside0.mk (below_step (by repeat (first | (with_reducible first | exact HB.out | apply below_alloc | apply pw_below_drewN | apply below_drew1) | exact HB.out)) hb); have n1_ := Aside0.mk (hbox); have n2_ := Aside0.mk ((by rw [hg]; exact (below_size (by repeat (first | (with_reducible first | exact HB.out | apply below_alloc | apply pw_below_drewN | apply below_drew1) | exact HB.out))) : w.heap.size ≤ gb134)); have n3_ := Aside0.mk ((by rw [hg]; exact (below_size (by repeat (first | (with_reducible first | exact HB.out | apply below_alloc | apply pw_below_drewN | apply below_drew1) | exact HB.out))) : w.heap.size ≤ gb134)); clear HB; have HB := n0_; have BK134 := n1_; have GW134 := n2_; have GE134 := n3_; clear n0_ n1_ n2_ n3_; clear hb hbox hg; have hcz4_0 : w3.cell? ⟨gb134, 0, none⟩ = some (.int .i64 0) := (blk_cell BK134.out 0).trans rfl; have hcz4_1 : w3.cell? ⟨gb134, 1, none⟩ = some (.int .i64 0) := (blk_cell BK134.out 1).trans rfl; have hcz4_2 : w3.cell? ⟨gb134, 2, none⟩ = some (.int .u32 0) := (blk_cell BK134.out 2).trans rfl; have hcz4_3 : w3.cell? ⟨gb134, 3, none⟩ = some (.int .u32 0) := (blk_cell BK134.out 3).trans rfl; have hcz4_4 : w3.cell? ⟨gb134, 4, none⟩ = some (.int .i64 0) := (blk_cell BK134.out 4).trans rfl; have hcz4_5 : w3.cell? ⟨gb134, 5, none⟩ = some (.int .i64 0) := (blk_cell BK134.out 5).trans rfl; have hcz4_6 : w3.cell? ⟨gb134, 6, none⟩ = some (.int .i64 0) := (blk_cell BK134.out 6).trans rfl; have hcz4_7 : w3.cell? ⟨gb134, 7, none⟩ = some (.slice none 0 0) := (blk_cell BK134.out 7).trans rfl; have hcz4_8 : w3.cell? ⟨gb134, 8, none⟩ = some (.slice none 0 0) := (blk_cell BK134.out 8).trans rfl; have hfz4_0 := blk_frozen BK134.out 0; have hfz4_1 := blk_frozen BK134.out 1; have hfz4_2 := blk_frozen BK134.out 2; have hfz4_3 := blk_frozen BK134.out 3; have hfz4_4 := blk_frozen BK134.out 4; have hfz4_5 := blk_frozen BK134.out 5; have hfz4_6 := blk_frozen BK134.out 6; have hfz4_7 := blk_frozen BK134.out 7; have hfz4_8 := blk_frozen BK134.out 8))
    refine bodyPost_ret (results_ct rfl _ _ gb134 27 #[.int .i64 0, .int .i64 0, .int .u32 0, .int .u32 0, .int .i64 0, .int .i64 0, .int .i64 0, .slice none 0 0, .slice none 0 0] (0, 0) _ rfl (by (with_reducible repeat (first | refine blk_drewN ?_ _ | refine blk_drew ?_ | refine blk_alloc ?_ _)); refine blk_put (cs := #[.int .i64 0, .int .i64 0, .int .u32 0, .int .u32 0, .int .i64 0, .int .i64 0, .int .i64 0, .slice none 0 0, .slice none 0 0]) ?_ 8 _ rfl; (with_reducible repeat (first | refine blk_drewN ?_ _ | refine blk_drew ?_ | refine blk_alloc ?_ _)); refine blk_put (cs := #[.int .i64 0, .int .i64 0, .int .u32 0, .int .u32 0, .int .i64 0, .int .i64 0, .int .i64 0, .slice none 0 0, .slice none 0 0]) ?_ 7 _ rfl; (with_reducible repeat (first | refine blk_drewN ?_ _ | refine blk_drew ?_ | refine blk_alloc ?_ _)); refine blk_put (cs := #[.int .i64 0, .int .i64 0, .int .u32 0, .int .u32 0, .int .i64 0, .int .i64 0, .int .i64 0, .slice none 0 0, .slice none 0 0]) ?_ 6 _ rfl; (with_reducible repeat (first | refine blk_drewN ?_ _ | refine blk_drew ?_ | refine blk_alloc ?_ _)); refine blk_put (cs := #[.int .i64 0, .int .i64 0, .int .u32 0, .int .u32 0, .int .i64 0, .int .i64 0, .int .i64 0, .slice none 0 0, .slice none 0 0]) ?_ 5 _ rfl; (with_reducible repeat (first | refine blk_drewN ?_ _ | refine blk_drew ?_ | refine blk_alloc ?_ _)); refine blk_put (cs := #[.int .i64 0, .int .i64 0, .int .u32 0, .int .u32 0, .int .i64 0, .int .i64 0, .int .i64 0, .slice none 0 0, .slice none 0 0]) ?_ 4 _ rfl; (with_reducible repeat (first | refine blk_drewN ?_ _ | refine blk_drew ?_ | refine blk_alloc ?_ _)); refine blk_put (cs := #[.int .i64 0, .int .i64 0, .int .u32 0, .int .u32 0, .int .i64 0, .int .i64 0, .int .i64 0, .slice none 0 0, .slice none 0 0]) ?_ 3 _ rfl; (with_reducible repeat (first | refine blk_drewN ?_ _ | refine blk_drew ?_ | refine blk_alloc ?_ _)); refine blk_put (cs := #[.int .i64 0, .int .i64 0, .int .u32 0, .int .u32 0, .int .i64 0, .int .i64 0, .int .i64 0, .slice none 0 0, .slice none 0 0]) ?_ 2 _ rfl; (with_reducible repeat (first | refine blk_drewN ?_ _ | refine blk_drew ?_ | refine blk_alloc ?_ _)); refine blk_put (cs := #[.int .i64 0, .int .i64 0, .int .u32 0, .int .u32 0, .int .i64 0, .int .i64 0, .int .i64 0, .slice none 0 0, .slice none 0 0]) ?_ 1 _ rfl; (with_reducible repeat (first | refine blk_drewN ?_ _ | refine blk_drew ?_ | refine blk_alloc ?_ _)); refine blk_put (cs := #[.int .i64 0, .int .i64 0, .int .u32 0, .int .u32 0, .int .i64 0, .int .i64 0, .int .i64 0, .slice none 0 0, .slice none 0 0]) ?_ 0 _ rfl; (with_reducible repeat (first | refine blk_drewN ?_ _ | refine blk_drew ?_ | refine blk_alloc ?_ _)); exact BK134.out) Try.underlying27 rfl (by kernel_rfl)) rfl ?_
    exact ⟨_, _, by first | rfl | (simp [errW_none, errW_some] <;> rfl) | (simp [*, errW_none, errW_some] <;> rfl), by first | exact Kd.R_nil _ _ _ _ _ | exact Kd.N_nil _ _ _ _ _ | exact Kd.V_nil _ _ _ _ _ | exact Kd.Q_nil _ _ _ _ _ | exact Kd.S_nil _ _ _ _ _, by first | exact Kd.R_nil _ _ _ _ _ | exact Kd.N_nil _ _ _ _ _ | exact Kd.V_nil _ _ _ _ _ | exact Kd.Q_nil _ _ _ _ _ | exact Kd.S_nil _ _ _ _ _, by repeat (first | (with_reducible first | exact HB.out | apply below_alloc | apply pw_below_drewN | apply below_drew1 | refine below_set ?_ GE134.out) | exact HB.out)⟩
  · rw [if_neg c2] at H
    have c2b0 : decide ((l0.length : Int) < 20) = false := decide_eq_false c2
    have c2b1 : decide (l0.length < 20) = false := decide_eq_false (by omega)
    clear c2
    by_cases c5 : 12 < (l0.length : Int)
    · rw [if_pos c5] at H
      have c5b0 : decide (12 < (l0.length : Int)) = true := decide_eq_true c5
      have c5b1 : decide (12 < l0.length) = true := decide_eq_true (by omega)
      clear c5
      by_cases c6 : (l0.length : Int) < (wrap64 ((wrap64 ((rd l0 12) / 16)) * 4))
      · rw [if_pos c6] at H
        have c6b0 : decide ((l0.length : Int) < (wrap64 ((wrap64 ((rd l0 12) / 16)) * 4))) = true := decide_eq_true c6
        clear c6
        simp only [Option.some.injEq, Prod.mk.injEq] at H
        obtain ⟨rfl, rfl, rfl, rfl, rfl, rfl, rfl, rfl, rfl, rfl⟩ := H
        go_enter Try.func21, Try.ntmps21
        go_wp2_with (first | ((with_reducible refine gate_dst (N := 2) rfl ?_); refine box_event ?hg (N := 2) ?hd (cs := #[.int .i64 0, .int .i64 0, .int .u32 0, .int .u32 0, .int .i64 0, .int .i64 0, .int .i64 0, .slice none 0 0, .slice none 0 0]) (t := 27) ?hr ?_; (case hd => rfl); (case hg => rfl); (case hr => first | (go_simp; done) | (go_simp; rfl)); intro gb134 hg w7 hbox hb; have n0_ := Aside0.mk (below_step (by repeat (first | (with_reducible first | exact HB.out | apply below_alloc | apply pw_below_drewN | apply below_drew1) | exact HB.out)) hb); have n1_ := Aside0.mk (hbox); have n2_ := Aside0.mk ((by rw [hg]; exact (below_size (by repeat (first | (with_reducible first | exact HB.out | apply below_alloc | apply pw_below_drewN | apply below_drew1) | exact HB.out))) : w.heap.size ≤ gb134)); have n3_ := Aside0.mk ((by rw [hg]; exact (below_size (by repeat (first | (with_reducible first | exact HB.out | apply below_alloc | apply pw_below_drewN | apply below_drew1) | exact HB.out))) : w.heap.size ≤ gb134)); clear HB; have HB := n0_; have BK134 := n1_; have GW134 := n2_; have GE134 := n3_; clear n0_ n1_ n2_ n3_; clear hb hbox hg; have p135 : 0 ≤ (12 : Int) := (by omega); have q135 : 12 < (l0.length : Int) := of_decide_eq_true (by first | (with_reducible assumption) | assumption); obtain ⟨ad135, e135, hx135_0⟩ := Kd.at_int HR0.out 12 p135 q135; cases e135; (try simp only [show (12 : Int).toNat = 12 from rfl, Nat.reduceMul, Nat.reduceEqDiff, Go.Addr.add, ↓reduceIte] at hx135_0); have qi135 : (12 < l0.length) = True := eq_true (by omega); (try rw [show ((12 : Int)).toNat = 12 from rfl] at hx135_0); replace hx135_0 := (HB.out.cell (World.block_lt_of_cell? w _ hx135_0)).trans hx135_0; replace p135 := eq_true p135; replace q135 := eq_true q135; have hcz8_0 : w7.cell? ⟨gb134, 0, none⟩ = some (.int .i64 0) := (blk_cell BK134.out 0).trans rfl; have hcz8_1 : w7.cell? ⟨gb134, 1, none⟩ = some (.int .i64 0) := (blk_cell BK134.out 1).trans rfl; have hcz8_2 : w7.cell? ⟨gb134, 2, none⟩ = some (.int .u32 0) := (blk_cell BK134.out 2).trans rfl; have hcz8_3 : w7.cell? ⟨gb134, 3, none⟩ = some (.int .u32 0) := (blk_cell BK134.out 3).trans rfl; have hcz8_4 : w7.cell? ⟨gb134, 4, none⟩ = some (.int .i64 0) := (blk_cell BK134.out 4).trans rfl; have hcz8_5 : w7.cell? ⟨gb134, 5, none⟩ = some (.int .i64 0) := (blk_cell BK134.out 5).trans rfl; have hcz8_6 : w7.cell? ⟨gb134, 6, none⟩ = some (.int .i64 0) := (blk_cell BK134.out 6).trans rfl; have hcz8_7 : w7.cell? ⟨gb134, 7, none⟩ = some (.slice none 0 0) := (blk_cell BK134.out 7).trans rfl; have hcz8_8 : w7.cell? ⟨gb134, 8, none⟩ = some (.slice none 0 0) := (blk_cell BK134.out 8).trans rfl; have hfz8_0 := blk_frozen BK134.out 0; have hfz8_1 := blk_frozen BK134.out 1; have hfz8_2 := blk_frozen BK134.out 2; have hfz8_3 := blk_frozen BK134.out 3; have hfz8_4 := blk_frozen BK134.out 4; have hfz8_5 := blk_frozen BK134.out 5; have hfz8_6 := blk_frozen BK134.out 6; have hfz8_7 := blk_frozen BK134.out 7; have hfz8_8 := blk_frozen BK134.out 8))
        refine bodyPost_ret (results_ct rfl _ _ gb134 27 #[.int .i64 0, .int .i64 0, .int .u32 0, .int .u32 0, .int .i64 0, .int .i64 0, .int .i64 0, .slice none 0 0, .slice none 0 0] (0, 0) _ rfl (by (with_reducible repeat (first | refine blk_drewN ?_ _ | refine blk_drew ?_ | refine blk_alloc ?_ _)); refine blk_put (cs := #[.int .i64 0, .int .i64 0, .int .u32 0, .int .u32 0, .int .i64 0, .int .i64 0, .int .i64 0, .slice none 0 0, .slice none 0 0]) ?_ 8 _ rfl; (with_reducible repeat (first | refine blk_drewN ?_ _ | refine blk_drew ?_ | refine blk_alloc ?_ _)); refine blk_put (cs := #[.int .i64 0, .int .i64 0, .int .u32 0, .int .u32 0, .int .i64 0, .int .i64 0, .int .i64 0, .slice none 0 0, .slice none 0 0]) ?_ 7 _ rfl; (with_reducible repeat (first | refine blk_drewN ?_ _ | refine blk_drew ?_ | refine blk_alloc ?_ _)); refine blk_put (cs := #[.int .i64 0, .int .i64 0, .int .u32 0, .int .u32 0, .int .i64 0, .int .i64 0, .int .i64 0, .slice none 0 0, .slice none 0 0]) ?_ 6 _ rfl; (with_reducible repeat (first | refine blk_drewN ?_ _ | refine blk_drew ?_ | refine blk_alloc ?_ _)); refine blk_put (cs := #[.int .i64 0, .int .i64 0, .int .u32 0, .int .u32 0, .int .i64 0, .int .i64 0, .int .i64 0, .slice none 0 0, .slice none 0 0]) ?_ 5 _ rfl; (with_reducible repeat (first | refine blk_drewN ?_ _ | refine blk_drew ?_ | refine blk_alloc ?_ _)); refine blk_put (cs := #[.int .i64 0, .int .i64 0, .int .u32 0, .int .u32 0, .int .i64 0, .int .i64 0, .int .i64 0, .slice none 0 0, .slice none 0 0]) ?_ 4 _ rfl; (with_reducible repeat (first | refine blk_drewN ?_ _ | refine blk_drew ?_ | refine blk_alloc ?_ _)); refine blk_put (cs := #[.int .i64 0, .int .i64 0, .int .u32 0, .int .u32 0, .int .i64 0, .int .i64 0, .int .i64 0, .slice none 0 0, .slice none 0 0]) ?_ 3 _ rfl; (with_reducible repeat (first | refine blk_drewN ?_ _ | refine blk_drew ?_ | refine blk_alloc ?_ _)); refine blk_put (cs := #[.int .i64 0, .int .i64 0, .int .u32 0, .int .u32 0, .int .i64 0, .int .i64 0, .int .i64 0, .slice none 0 0, .slice none 0 0]) ?_ 2 _ rfl; (with_reducible repeat (first | refine blk_drewN ?_ _ | refine blk_drew ?_ | refine blk_alloc ?_ _)); refine blk_put (cs := #[.int .i64 0, .int .i64 0, .int .u32 0, .int .u32 0, .int .i64 0, .int .i64 0, .int .i64 0, .slice none 0 0, .slice none 0 0]) ?_ 1 _ rfl; (with_reducible repeat (first | refine blk_drewN ?_ _ | refine blk_drew ?_ | refine blk_alloc ?_ _)); refine blk_put (cs := #[.int .i64 0, .int .i64 0, .int .u32 0, .int .u32 0, .int .i64 0, .int .i64 0, .int .i64 0, .slice none 0 0, .slice none 0 0]) ?_ 0 _ rfl; (with_reducible repeat (first | refine blk_drewN ?_ _ | refine blk_drew ?_ | refine blk_alloc ?_ _)); exact BK134.out) Try.underlying27 rfl (by kernel_rfl)) rfl ?_
        exact ⟨_, _, by first | rfl | (simp [errW_none, errW_some] <;> rfl) | (simp [*, errW_none, errW_some] <;> rfl), by first | exact Kd.R_nil _ _ _ _ _ | exact Kd.N_nil _ _ _ _ _ | exact Kd.V_nil _ _ _ _ _ | exact Kd.Q_nil _ _ _ _ _ | exact Kd.S_nil _ _ _ _ _, by first | exact Kd.R_nil _ _ _ _ _ | exact Kd.N_nil _ _ _ _ _ | exact Kd.V_nil _ _ _ _ _ | exact Kd.Q_nil _ _ _ _ _ | exact Kd.S_nil _ _ _ _ _, by repeat (first | (with_reducible first | exact HB.out | apply below_alloc | apply pw_below_drewN | apply below_drew1 | refine below_set ?_ GE134.out) | exact HB.out)⟩
      · rw [if_neg c6] at H
        have c6b0 : decide ((l0.length : Int) < (wrap64 ((wrap64 ((rd l0 12) / 16)) * 4))) = false := decide_eq_false c6
        clear c6
        by_cases c9 : (wrap64 ((wrap64 ((rd l0 12) / 16)) * 4)) < 20
        · rw [if_pos c9] at H
          have c9b0 : decide ((wrap64 ((wrap64 ((rd l0 12) / 16)) * 4)) < 20) = true := decide_eq_true c9
          clear c9
          simp only [Option.some.injEq, Prod.mk.injEq] at H
          obtain ⟨rfl, rfl, rfl, rfl, rfl, rfl, rfl, rfl, rfl, rfl⟩ := H
          go_enter Try.func21, Try.ntmps21
          go_wp2_with (first | ((with_reducible refine gate_dst (N := 2) rfl ?_); refine box_event ?hg (N := 2) ?hd (cs := #[.int .i64 0, .int .i64 0, .int .u32 0, .int .u32 0, .int .i64 0, .int .i64 0, .int .i64 0, .slice none 0 0, .slice none 0 0]) (t := 27) ?hr ?_; (case hd => rfl); (case hg => rfl); (case hr => first | (go_simp; done) | (go_simp; rfl)); intro gb134 hg w10 hbox hb; have n0_ := Aside0.mk (below_step (by repeat (first | (with_reducible first | exact HB.out | apply below_alloc | apply pw_below_drewN | apply below_drew1) | exact HB.out)) hb); have n1_ := Aside0.mk (hbox); have n2_ := Aside0.mk ((by rw [hg]; exact (below_size (by repeat (first | (with_reducible first | exact HB.out | apply below_alloc | apply pw_below_drewN | apply below_drew1) | exact HB.out))) : w.heap.size ≤ gb134)); have n3_ := Aside0.mk ((by rw [hg]; exact (below_size (by repeat (first | (with_reducible first | exact HB.out | apply below_alloc | apply pw_below_drewN | apply below_drew1) | exact HB.out))) : w.heap.size ≤ gb134)); clear HB; have HB := n0_; have BK134 := n1_; have GW134 := n2_; have GE134 := n3_; clear n0_ n1_ n2_ n3_; clear hb hbox hg; have p135 : 0 ≤ (12 : Int) := (by omega); have q135 : 12 < (l0.length : Int) := of_decide_eq_true (by first | (with_reducible assumption) | assumption); obtain ⟨ad135, e135, hx135_0⟩ := Kd.at_int HR0.out 12 p135 q135; cases e135; (try simp only [show (12 : Int).toNat = 12 from rfl, Nat.reduceMul, Nat.reduceEqDiff, Go.Addr.add, ↓reduceIte] at hx135_0); have qi135 : (12 < l0.length) = True := eq_true (by omega); (try rw [show ((12 : Int)).toNat = 12 from rfl] at hx135_0); replace hx135_0 := (HB.out.cell (World.block_lt_of_cell? w _ hx135_0)).trans hx135_0; replace p135 := eq_true p135; replace q135 := eq_true q135; have hcz11_0 : w10.cell? ⟨gb134, 0, none⟩ = some (.int .i64 0) := (blk_cell BK134.out 0).trans rfl; have hcz11_1 : w10.cell? ⟨gb134, 1, none⟩ = some (.int .i64 0) := (blk_cell BK134.out 1).trans rfl; have hcz11_2 : w10.cell? ⟨gb134, 2, none⟩ = some (.int .u32 0) := (blk_cell BK134.out 2).trans rfl; have hcz11_3 : w10.cell? ⟨gb134, 3, none⟩ = some (.int .u32 0) := (blk_cell BK134.out 3).trans rfl; have hcz11_4 : w10.cell? ⟨gb134, 4, none⟩ = some (.int .i64 0) := (blk_cell BK134.out 4).trans rfl; have hcz11_5 : w10.cell? ⟨gb134, 5, none⟩ = some (.int .i64 0) := (blk_cell BK134.out 5).trans rfl; have hcz11_6 : w10.cell? ⟨gb134, 6, none⟩ = some (.int .i64 0) := (blk_cell BK134.out 6).trans rfl; have hcz11_7 : w10.cell? ⟨gb134, 7, none⟩ = some (.slice none 0 0) := (blk_cell BK134.out 7).trans rfl; have hcz11_8 : w10.cell? ⟨gb134, 8, none⟩ = some (.slice none 0 0) := (blk_cell BK134.out 8).trans rfl; have hfz11_0 := blk_frozen BK134.out 0; have hfz11_1 := blk_frozen BK134.out 1; have hfz11_2 := blk_frozen BK134.out 2; have hfz11_3 := blk_frozen BK134.out 3; have hfz11_4 := blk_frozen BK134.out 4; have hfz11_5 := blk_frozen BK134.out 5; have hfz11_6 := blk_frozen BK134.out 6; have hfz11_7 := blk_frozen BK134.out 7; have hfz11_8 := blk_frozen BK134.out 8))
          refine bodyPost_ret (results_ct rfl _ _ gb134 27 #[.int .i64 0, .int .i64 0, .int .u32 0, .int .u32 0, .int .i64 0, .int .i64 0, .int .i64 0, .slice none 0 0, .slice none 0 0] (0, 0) _ rfl (by (with_reducible repeat (first | refine blk_drewN ?_ _ | refine blk_drew ?_ | refine blk_alloc ?_ _)); refine blk_put (cs := #[.int .i64 0, .int .i64 0, .int .u32 0, .int .u32 0, .int .i64 0, .int .i64 0, .int .i64 0, .slice none 0 0, .slice none 0 0]) ?_ 8 _ rfl; (with_reducible repeat (first | refine blk_drewN ?_ _ | refine blk_drew ?_ | refine blk_alloc ?_ _)); refine blk_put (cs := #[.int .i64 0, .int .i64 0, .int .u32 0, .int .u32 0, .int .i64 0, .int .i64 0, .int .i64 0, .slice none 0 0, .slice none 0 0]) ?_ 7 _ rfl; (with_reducible repeat (first | refine blk_drewN ?_ _ | refine blk_drew ?_ | refine blk_alloc ?_ _)); refine blk_put (cs := #[.int .i64 0, .int .i64 0, .int .u32 0, .int .u32 0, .int .i64 0, .int .i64 0, .int .i64 0, .slice none 0 0, .slice none 0 0]) ?_ 6 _ rfl; (with_reducible repeat (first | refine blk_drewN ?_ _ | refine blk_drew ?_ | refine blk_alloc ?_ _)); refine blk_put (cs := #[.int .i64 0, .int .i64 0, .int .u32 0, .int .u32 0, .int .i64 0, .int .i64 0, .int .i64 0, .slice none 0 0, .slice none 0 0]) ?_ 5 _ rfl; (with_reducible repeat (first | refine blk_drewN ?_ _ | refine blk_drew ?_ | refine blk_alloc ?_ _)); refine blk_put (cs := #[.int .i64 0, .int .i64 0, .int .u32 0, .int .u32 0, .int .i64 0, .int .i64 0, .int .i64 0, .slice none 0 0, .slice none 0 0]) ?_ 4 _ rfl; (with_reducible repeat (first | refine blk_drewN ?_ _ | refine blk_drew ?_ | refine blk_alloc ?_ _)); refine blk_put (cs := #[.int .i64 0, .int .i64 0, .int .u32 0, .int .u32 0, .int .i64 0, .int .i64 0, .int .i64 0, .slice none 0 0, .slice none 0 0]) ?_ 3 _ rfl; (with_reducible repeat (first | refine blk_drewN ?_ _ | refine blk_drew ?_ | refine blk_alloc ?_ _)); refine blk_put (cs := #[.int .i64 0, .int .i64 0, .int .u32 0, .int .u32 0, .int .i64 0, .int .i64 0, .int .i64 0, .slice none 0 0, .slice none 0 0]) ?_ 2 _ rfl; (with_reducible repeat (first | refine blk_drewN ?_ _ | refine blk_drew ?_ | refine blk_alloc ?_ _)); refine blk_put (cs := #[.int .i64 0, .int .i64 0, .int .u32 0, .int .u32 0, .int .i64 0, .int .i64 0, .int .i64 0, .slice none 0 0, .slice none 0 0]) ?_ 1 _ rfl; (with_reducible repeat (first | refine blk_drewN ?_ _ | refine blk_drew ?_ | refine blk_alloc ?_ _)); refine blk_put (cs := #[.int .i64 0, .int .i64 0, .int .u32 0, .int .u32 0, .int .i64 0, .int .i64 0, .int .i64 0, .slice none 0 0, .slice none 0 0]) ?_ 0 _ rfl; (with_reducible repeat (first | refine blk_drewN ?_ _ | refine blk_drew ?_ | refine blk_alloc ?_ _)); exact BK134.out) Try.underlying27 rfl (by kernel_rfl)) rfl ?_
          exact ⟨_, _, by first | rfl | (simp [errW_none, errW_some] <;> rfl) | (simp [*, errW_none, errW_some] <;> rfl), by first | exact Kd.R_nil _ _ _ _ _ | exact Kd.N_nil _ _ _ _ _ | exact Kd.V_nil _ _ _ _ _ | exact Kd.Q_nil _ _ _ _ _ | exact Kd.S_nil _ _ _ _ _, by first | exact Kd.R_nil _ _ _ _ _ | exact Kd.N_nil _ _ _ _ _ | exact Kd.V_nil _ _ _ _ _ | exact Kd.Q_nil _ _ _ _ _ | exact Kd.S_nil _ _ _ _ _, by repeat (first | (with_reducible first | exact HB.out | apply below_alloc | apply pw_below_drewN | apply below_drew1 | refine below_set ?_ GE134.out) | exact HB.out)⟩
        · rw [if_neg c9] at H
          have c9b0 : decide ((wrap64 ((wrap64 ((rd l0 12) / 16)) * 4)) < 20) = false := decide_eq_false c9
          clear c9
          replace H := Option.bind_eq_some_iff.mp H
          obtain ⟨t136, A120, H⟩ := H
          replace H : ((word_Get16.f l0 2).bind fun t137 => ((word_Get32.f k l0 4).bind fun t138 => ((word_Get32.f k l0 8).bind fun t139 => (if 13 < (l0.length : Int) then ((word_Get16.f l0 14).bind fun t141 => ((word_Get16.f l0 18).bind fun t142 => (if 20 ≤ (wrap64 ((wrap64 ((rd l0 12) / 16)) * 4)) then (if (wrap64 ((wrap64 ((rd l0 12) / 16)) * 4)) ≤ (l0.length : Int) then ((bytes_Clone.f ((l0.take ((wrap64 ((wrap64 ((rd l0 12) / 16)) * 4)) : Int).toNat).drop 20)).bind fun t144 => (if 0 ≤ (wrap64 ((wrap64 ((rd l0 12) / 16)) * 4)) then ((bytes_Clone.f (l0.drop ((wrap64 ((wrap64 ((rd l0 12) / 16)) * 4)) : Int).toNat)).bind fun t148 => (some (t136, t137, t138, t139, wrap64 (Go.bits .and .u8 (rd l0 13) 63), t141, t142, t144, t148, 0))) else (none))) else (none)) else (none)))) else (none))))) = some (r1, r2, r3, r4, r5, r6, r7, r8, r9, r10) := H
          have A12 := Aside0.mk A120
          clear A120
          replace H := Option.bind_eq_some_iff.mp H
          obtain ⟨t137, A130, H⟩ := H
          replace H : ((word_Get32.f k l0 4).bind fun t138 => ((word_Get32.f k l0 8).bind fun t139 => (if 13 < (l0.length : Int) then ((word_Get16.f l0 14).bind fun t141 => ((word_Get16.f l0 18).bind fun t142 => (if 20 ≤ (wrap64 ((wrap64 ((rd l0 12) / 16)) * 4)) then (if (wrap64 ((wrap64 ((rd l0 12) / 16)) * 4)) ≤ (l0.length : Int) then ((bytes_Clone.f ((l0.take ((wrap64 ((wrap64 ((rd l0 12) / 16)) * 4)) : Int).toNat).drop 20)).bind fun t144 => (if 0 ≤ (wrap64 ((wrap64 ((rd l0 12) / 16)) * 4)) then ((bytes_Clone.f (l0.drop ((wrap64 ((wrap64 ((rd l0 12) / 16)) * 4)) : Int).toNat)).bind fun t148 => (some (t136, t137, t138, t139, wrap64 (Go.bits .and .u8 (rd l0 13) 63), t141, t142, t144, t148, 0))) else (none))) else (none)) else (none)))) else (none)))) = some (r1, r2, r3, r4, r5, r6, r7, r8, r9, r10) := H
          have A13 := Aside0.mk A130
          clear A130
          replace H := Option.bind_eq_some_iff.mp H
          obtain ⟨t138, A140, H⟩ := H
          replace H : ((word_Get32.f k l0 8).bind fun t139 => (if 13 < (l0.length : Int) then ((word_Get16.f l0 14).bind fun t141 => ((word_Get16.f l0 18).bind fun t142 => (if 20 ≤ (wrap64 ((wrap64 ((rd l0 12) / 16)) * 4)) then (if (wrap64 ((wrap64 ((rd l0 12) / 16)) * 4)) ≤ (l0.length : Int) then ((bytes_Clone.f ((l0.take ((wrap64 ((wrap64 ((rd l0 12) / 16)) * 4)) : Int).toNat).drop 20)).bind fun t144 => (if 0 ≤ (wrap64 ((wrap64 ((rd l0 12) / 16)) * 4)) then ((bytes_Clone.f (l0.drop ((wrap64 ((wrap64 ((rd l0 12) / 16)) * 4)) : Int).toNat)).bind fun t148 => (some (t136, t137, t138, t139, wrap64 (Go.bits .and .u8 (rd l0 13) 63), t141, t142, t144, t148, 0))) else (none))) else (none)) else (none)))) else (none))) = some (r1, r2, r3, r4, r5, r6, r7, r8, r9, r10) := H
          have A14 := Aside0.mk A140
          clear A140
          replace H := Option.bind_eq_some_iff.mp H
          obtain ⟨t139, A150, H⟩ := H
          replace H : (if 13 < (l0.length : Int) then ((word_Get16.f l0 14).bind fun t141 => ((word_Get16.f l0 18).bind fun t142 => (if 20 ≤ (wrap64 ((wrap64 ((rd l0 12) / 16)) * 4)) then (if (wrap64 ((wrap64 ((rd l0 12) / 16)) * 4)) ≤ (l0.length : Int) then ((bytes_Clone.f ((l0.take ((wrap64 ((wrap64 ((rd l0 12) / 16)) * 4)) : Int).toNat).drop 20)).bind fun t144 => (if 0 ≤ (wrap64 ((wrap64 ((rd l0 12) / 16)) * 4)) then ((bytes_Clone.f (l0.drop ((wrap64 ((wrap64 ((rd l0 12) / 16)) * 4)) : Int).toNat)).bind fun t148 => (some (t136, t137, t138, t139, wrap64 (Go.bits .and .u8 (rd l0 13) 63), t141, t142, t144, t148, 0))) else (none))) else (none)) else (none)))) else (none)) = some (r1, r2, r3, r4, r5, r6, r7, r8, r9, r10) := H
          have A15 := Aside0.mk A150
          clear A150
          by_cases c16 : 13 < (l0.length : Int)
          · rw [if_pos c16] at H
            have c16b0 : decide (13 < (l0.length : Int)) = true := decide_eq_true c16
            have c16b1 : decide (13 < l0.length) = true := decide_eq_true (by omega)
            clear c16
            replace H := Option.bind_eq_some_iff.mp H
            obtain ⟨t141, A170, H⟩ := H
            replace H : ((word_Get16.f l0 18).bind fun t142 => (if 20 ≤ (wrap64 ((wrap64 ((rd l0 12) / 16)) * 4)) then (if (wrap64 ((wrap64 ((rd l0 12) / 16)) * 4)) ≤ (l0.length : Int) then ((bytes_Clone.f ((l0.take ((wrap64 ((wrap64 ((rd l0 12) / 16)) * 4)) : Int).toNat).drop 20)).bind fun t144 => (if 0 ≤ (wrap64 ((wrap64 ((rd l0 12) / 16)) * 4)) then ((bytes_Clone.f (l0.drop ((wrap64 ((wrap64 ((rd l0 12) / 16)) * 4)) : Int).toNat)).bind fun t148 => (some (t136, t137, t138, t139, wrap64 (Go.bits .and .u8 (rd l0 13) 63), t141, t142, t144, t148, 0))) else (none))) else (none)) else (none))) = some (r1, r2, r3, r4, r5, r6, r7, r8, r9, r10) := H
            have A17 := Aside0.mk A170
            clear A170
            replace H := Option.bind_eq_some_iff.mp H
            obtain ⟨t142, A180, H⟩ := H
            replace H : (if 20 ≤ (wrap64 ((wrap64 ((rd l0 12) / 16)) * 4)) then (if (wrap64 ((wrap64 ((rd l0 12) / 16)) * 4)) ≤ (l0.length : Int) then ((bytes_Clone.f ((l0.take ((wrap64 ((wrap64 ((rd l0 12) / 16)) * 4)) : Int).toNat).drop 20)).bind fun t144 => (if 0 ≤ (wrap64 ((wrap64 ((rd l0 12) / 16)) * 4)) then ((bytes_Clone.f (l0.drop ((wrap64 ((wrap64 ((rd l0 12) / 16)) * 4)) : Int).toNat)).bind fun t148 => (some (t136, t137, t138, t139, wrap64 (Go.bits .and .u8 (rd l0 13) 63), t141, t142, t144, t148, 0))) else (none))) else (none)) else (none)) = some (r1, r2, r3, r4, r5, r6, r7, r8, r9, r10) := H
            have A18 := Aside0.mk A180
            clear A180
            by_cases c19 : 20 ≤ (wrap64 ((wrap64 ((rd l0 12) / 16)) * 4))
            · rw [if_pos c19] at H
              have c19b0 := eq_true c19
              have c19b1 : decide (20 ≤ (wrap64 ((wrap64 ((rd l0 12) / 16)) * 4))) = true := decide_eq_true c19
              clear c19
              by_cases c20 : (wrap64 ((wrap64 ((rd l0 12) / 16)) * 4)) ≤ (l0.length : Int)
              · rw [if_pos c20] at H
                have c20b0 := eq_true c20
                have c20b1 : decide ((wrap64 ((wrap64 ((rd l0 12) / 16)) * 4)) ≤ (l0.length : Int)) = true := decide_eq_true c20
                clear c20
                replace H := Option.bind_eq_some_iff.mp H
                obtain ⟨t144, A210, H⟩ := H
                replace H : (if 0 ≤ (wrap64 ((wrap64 ((rd l0 12) / 16)) * 4)) then ((bytes_Clone.f (l0.drop ((wrap64 ((wrap64 ((rd l0 12) / 16)) * 4)) : Int).toNat)).bind fun t148 => (some (t136, t137, t138, t139, wrap64 (Go.bits .and .u8 (rd l0 13) 63), t141, t142, t144, t148, 0))) else (none)) = some (r1, r2, r3, r4, r5, r6, r7, r8, r9, r10) := H
                have A21 := Aside0.mk A210
                clear A210
                obtain ⟨ji22, hji22⟩ : ∃ j_ : Int, (wrap64 ((wrap64 ((rd l0 12) / 16)) * 4)) = j_ := ⟨_, rfl⟩
                replace H : (if 0 ≤ (ji22) then ((bytes_Clone.f (l0.drop ((ji22) : Int).toNat)).bind fun t148 => (some (t136, t137, t138, t139, wrap64 (Go.bits .and .u8 (rd l0 13) 63), t141, t142, t144, t148, 0))) else (none)) = some (r1, r2, r3, r4, r5, r6, r7, r8, r9, r10) := by first | (rw [hji22] at H; exact H) | (simp only [hji22] at H ⊢; exact H)
                (try rw [hji22] at c6b0)
                (try rw [hji22] at c9b0)
                (try rw [hji22] at c19b0)
                (try rw [hji22] at c19b1)
                (try rw [hji22] at c20b0)
                (try rw [hji22] at c20b1)
                (try rw [hji22] at A12)
                (try rw [hji22] at A13)
                (try rw [hji22] at A14)
                (try rw [hji22] at A15)
                (try rw [hji22] at A17)
                (try rw [hji22] at A18)
                (try rw [hji22] at A21)
                have hji22w : (IntKind.i64.wrap ((wrap64 ((rd l0 12) / 16)) * 4)) = ji22 := (i64_w _).trans hji22
                by_cases c23 : 0 ≤ (ji22)
                · rw [if_pos c23] at H
                  have c23b0 := eq_true c23
                  have c23b1 : decide (0 ≤ (ji22)) = true := decide_eq_true c23
                  clear c23
                  have c24b0 := eq_true (of_decide_eq_true (by first | (with_reducible assumption) | assumption) : (ji22) ≤ (l0.length : Int))
                  replace H := Option.bind_eq_some_iff.mp H
                  obtain ⟨t148, A250, H⟩ := H
                  replace H : (some (t136, t137, t138, t139, wrap64 (Go.bits .and .u8 (rd l0 13) 63), t141, t142, t144, t148, 0)) = some (r1, r2, r3, r4, r5, r6, r7, r8, r9, r10) := H
                  have A25 := Aside0.mk A250
                  clear A250
                  simp only [Option.some.injEq, Prod.mk.injEq] at H
                  obtain ⟨rfl, rfl, rfl, rfl, rfl, rfl, rfl, rfl, rfl, rfl⟩ := H
                  go_enter Try.func21, Try.ntmps21
                  try go_wp2_with (first | ((with_reducible refine gate_dst (N := 2) rfl ?_); refine box_event ?hg (N := 2) ?hd (cs := #[.int .i64 0, .int .i64 0, .int .u32 0, .int .u32 0, .int .i64 0, .int .i64 0, .int .i64 0, .slice none 0 0, .slice none 0 0]) (t := 27) ?hr ?_; (case hd => rfl); (case hg => rfl); (case hr => first | (go_simp; done) | (go_simp; rfl)); intro gb134 hg w26 hbox hb; have n0_ := Aside0.mk (below_step (by repeat (first | (with_reducible first | exact HB.out | apply below_alloc | apply pw_below_drewN | apply below_drew1) | exact HB.out)) hb); have n1_ := Aside0.mk (hbox); have n2_ := Aside0.mk ((by rw [hg]; exact (below_size (by repeat (first | (with_reducible first | exact HB.out | apply below_alloc | apply pw_below_drewN | apply below_drew1) | exact HB.out))) : w.heap.size ≤ gb134)); have n3_ := Aside0.mk ((by rw [hg]; exact (below_size (by repeat (first | (with_reducible first | exact HB.out | apply below_alloc | apply pw_below_drewN | apply below_drew1) | exact HB.out))) : w.heap.size ≤ gb134)); clear HB; have HB := n0_; have BK134 := n1_; have GW134 := n2_; have GE134 := n3_; clear n0_ n1_ n2_ n3_; clear hb hbox hg; have p135 : 0 ≤ (12 : Int) := (by omega); have q135 : 12 < (l0.length : Int) := of_decide_eq_true (by first | (with_reducible assumption) | assumption); obtain ⟨ad135, e135, hx135_0⟩ := Kd.at_int HR0.out 12 p135 q135; cases e135; (try simp only [show (12 : Int).toNat = 12 from rfl, Nat.reduceMul, Nat.reduceEqDiff, Go.Addr.add, ↓reduceIte] at hx135_0); have qi135 : (12 < l0.length) = True := eq_true (by omega); (try rw [show ((12 : Int)).toNat = 12 from rfl] at hx135_0); replace hx135_0 := (HB.out.cell (World.block_lt_of_cell? w _ hx135_0)).trans hx135_0; replace p135 := eq_true p135; replace q135 := eq_true q135))
                  have n0_ := Aside0.mk (blk_drew BK134.out)
                  have n1_ := Aside0.mk (below_drew1 HB.out)
                  clear BK134
                  clear HB
                  have BK134 := n0_
                  have HB := n1_
                  clear n0_ n1_
                  have p140 : 0 ≤ (13 : Int) := (by omega)
                  have q140 : 13 < (l0.length : Int) := of_decide_eq_true (by first | (with_reducible assumption) | assumption)
                  obtain ⟨ad140, e140, hx140_0⟩ := Kd.at_int HR0.out 13 p140 q140
                  have hw140_0 := hx140_0
                  (try rw [show ((13 : Int)).toNat = 13 from rfl] at hw140_0)
                  (try rw [show 13 * 1 = 13 from rfl] at hw140_0)
                  (try simp only [Nat.reduceMul, Nat.reduceEqDiff, Go.Addr.add, ↓reduceIte] at hw140_0)
                  obtain rfl : ad135 = ad140 := (by injection e140)
                  (try simp only [show (13 : Int).toNat = 13 from rfl, Nat.reduceMul, Nat.reduceEqDiff, Go.Addr.add, ↓reduceIte] at hx140_0)
                  have qi140 : (13 < l0.length) = True := eq_true (by omega)
                  (try rw [show ((13 : Int)).toNat = 13 from rfl] at hx140_0)
                  replace hx140_0 := (HB.out.cell (World.block_lt_of_cell? w _ hx140_0)).trans hx140_0
                  replace p140 := eq_true p140
                  replace q140 := eq_true q140
                  obtain ⟨i028, hi028, _, hsz28, _⟩ := info_parts info5
                  obtain ⟨A28, hcut28, hA28, hC28⟩ := print_mid_of (P := Try.prog) (Value.int .u8) 0 25 5 .i64 .i64 Try.underlying25 hi028 hsz28 (some ad135) c0 l0 20 (ji22) (by omega) (by first | omega | exact of_decide_eq_true (by first | (with_reducible assumption) | assumption)) (of_decide_eq_true (by first | (with_reducible assumption) | assumption)) HC0.out
                  have HR143 := Aside0.mk (Kd.C_of_reads (h1 := fun _ => rfl) (hA28 _ (Kd.reads_of_C HR0.out)))
                  have HC143 := Aside0.mk hC28
                  clear hA28 hC28 hi028 hsz28
                  obtain ⟨i029, hi029, _, hsz29, _⟩ := info_parts info5
                  obtain ⟨A29, hcut29, hA29, hC29⟩ := print_drop_of (P := Try.prog) (Value.int .u8) 0 25 5 .i64 Try.underlying25 hi029 hsz29 (some ad135) c0 l0 (ji22) (of_decide_eq_true (by first | (with_reducible assumption) | assumption)) (of_decide_eq_true (by first | (with_reducible assumption) | assumption)) HC0.out
                  have HR147 := Aside0.mk (Kd.C_of_reads (h1 := fun _ => rfl) (hA29 _ (Kd.reads_of_C HR0.out)))
                  have HC147 := Aside0.mk hC29
                  clear hA29 hC29 hi029 hsz29
                  refine start_ (n := 28) (S := fun w' => w'.cell? ⟨ad135.block, ad135.off + 13, none⟩ = some (.int .u8 (rd l0 13))) (ds := []) #[false, false, false, false, false, false, false, false, false, false, false, false, false, false, false, false, false, false, false, false, false, false, false, false, false, false, false, false] (by kernel_rfl) rfl rfl (((HB.out.cell (World.block_lt_of_cell? w _ hw140_0)).trans hw140_0)) (fun hHeld => ?_); refine with_tabW tcp_Parse.tab8 tcp_Parse.bits8 (fun HT_ HW_ => ?_)
                  generalize w26.drew = w27 at BK134 HB HR143 HR147 hx140_0 hHeld ⊢
                  refine pure_ (i := 0) (N := some 25) (v := ?_) (a' := ?_) #[true, false, false, false, false, false, false, false, false, false, false, false, false, false, false, false, false, false, false, false, false, false, false, false, false, false, false, false] rfl rfl (any_of HT_.out (by kernel_rfl)) (fun _ _ _ h => h) (Or.inl ⟨by rfl, ?_⟩) ?_ ?_
                  rotate_left
                  · intro w'
                    go_simp
                    with_reducible rfl
                  rotate_left
                  · simp only [Act.put, List.setIfInBounds_toArray, List.set_cons_zero, List.set_cons_succ, i64_w, i32_w]
                    rfl
                  refine pure_ (i := 2) (N := some 27) (v := ?_) (a' := ?_) #[true, false, true, false, false, false, false, false, false, false, false, false, false, false, false, false, false, false, false, false, false, false, false, false, false, false, false, false] rfl rfl (any_of HT_.out (by kernel_rfl)) (fun _ _ _ h => h) (Or.inl ⟨by rfl, ?_⟩) ?_ ?_
                  rotate_left
                  · intro w'
                    go_simp
                    with_reducible rfl
                  rotate_left
                  · simp only [Act.put, List.setIfInBounds_toArray, List.set_cons_zero, List.set_cons_succ, i64_w, i32_w]
                    rfl
                  refine pure_ (i := 4) (N := some 29) (v := ?_) (a' := ?_) #[true, false, true, false, true, false, false, false, false, false, false, false, false, false, false, false, false, false, false, false, false, false, false, false, false, false, false, false] rfl rfl (any_of HT_.out (by kernel_rfl)) (fun _ _ _ h => h) (Or.inl ⟨by rfl, ?_⟩) ?_ ?_
                  rotate_left
                  · intro w'
                    go_simp
                    with_reducible rfl
                  rotate_left
                  · simp only [Act.put, List.setIfInBounds_toArray, List.set_cons_zero, List.set_cons_succ, i64_w, i32_w]
                    rfl
                  refine pure_ (i := 6) (N := some 31) (v := ?_) (a' := ?_) #[true, false, true, false, true, false, true, false, false, false, false, false, false, false, false, false, false, false, false, false, false, false, false, false, false, false, false, false] rfl rfl (any_of HT_.out (by kernel_rfl)) (fun _ _ _ h => h) (Or.inl ⟨by rfl, ?_⟩) ?_ ?_
                  rotate_left
                  · intro w'
                    go_simp
                    with_reducible rfl
                  rotate_left
                  · simp only [Act.put, List.setIfInBounds_toArray, List.set_cons_zero, List.set_cons_succ, i64_w, i32_w]
                    rfl
                  refine pure_ (i := 8) (N := some 33) (v := ?_) (a' := ?_) #[true, false, true, false, true, false, true, false, true, false, false, false, false, false, false, false, false, false, false, false, false, false, false, false, false, false, false, false] rfl rfl (any_of HT_.out (by kernel_rfl)) (fun _ _ _ h => h) (Or.inl ⟨by rfl, ?_⟩) ?_ ?_
                  rotate_left
                  · intro w'
                    go_simp
                    with_reducible rfl
                  rotate_left
                  · simp only [Act.put, List.setIfInBounds_toArray, List.set_cons_zero, List.set_cons_succ, i64_w, i32_w]
                    rfl
                  refine pure_ (i := 9) (N := some 34) (v := ?_) (a' := ?_) #[true, false, true, false, true, false, true, false, true, true, false, false, false, false, false, false, false, false, false, false, false, false, false, false, false, false, false, false] rfl rfl (any_of HT_.out (by kernel_rfl)) (fun _ _ _ h => h) (Or.inl ⟨by rfl, ?_⟩) ?_ ?_
                  rotate_left
                  · intro w'
                    go_simp
                    with_reducible rfl
                  rotate_left
                  · simp only [Act.put, List.setIfInBounds_toArray, List.set_cons_zero, List.set_cons_succ, i64_w, i32_w]
                    rfl
                  refine pure_ (i := 13) (N := some 38) (v := ?_) (a' := ?_) #[true, false, true, false, true, false, true, false, true, true, false, false, false, true, false, false, false, false, false, false, false, false, false, false, false, false, false, false] rfl rfl (any_of HT_.out (by kernel_rfl)) (fun _ _ _ h => h) (Or.inl ⟨by rfl, ?_⟩) ?_ ?_
                  rotate_left
                  · intro w'
                    go_simp
                    with_reducible rfl
                  rotate_left
                  · simp only [Act.put, List.setIfInBounds_toArray, List.set_cons_zero, List.set_cons_succ, i64_w, i32_w]
                    rfl
                  refine pure_ (i := 15) (N := some 40) (v := ?_) (a' := ?_) #[true, false, true, false, true, false, true, false, true, true, false, false, false, true, false, true, false, false, false, false, false, false, false, false, false, false, false, false] rfl rfl (any_of HT_.out (by kernel_rfl)) (fun _ _ _ h => h) (Or.inl ⟨by rfl, ?_⟩) ?_ ?_
                  rotate_left
                  · intro w'
                    go_simp
                    with_reducible rfl
                  rotate_left
                  · simp only [Act.put, List.setIfInBounds_toArray, List.set_cons_zero, List.set_cons_succ, i64_w, i32_w]
                    rfl
                  refine pure_ (i := 17) (N := some 42) (v := ?_) (a' := ?_) #[true, false, true, false, true, false, true, false, true, true, false, false, false, true, false, true, false, true, false, false, false, false, false, false, false, false, false, false] rfl rfl (any_of HT_.out (by kernel_rfl)) (fun _ _ _ h => h) (Or.inl ⟨by rfl, ?_⟩) ?_ ?_
                  rotate_left
                  · intro w'
                    go_simp
                    with_reducible rfl
                  rotate_left
                  · simp only [Act.put, List.setIfInBounds_toArray, List.set_cons_zero, List.set_cons_succ, i64_w, i32_w]
                    rfl
                  refine pure_ (i := 18) (N := some 43) (v := ?_) (a' := ?_) #[true, false, true, false, true, false, true, false, true, true, false, false, false, true, false, true, false, true, true, false, false, false, false, false, false, false, false, false] rfl rfl (any_of HT_.out (by kernel_rfl)) (fun _ _ _ h => h) (Or.inl ⟨by rfl, ?_⟩) ?_ ?_
                  rotate_left
                  · intro w'
                    go_simp
                    with_reducible rfl
                  rotate_left
                  · simp only [Act.put, List.setIfInBounds_toArray, List.set_cons_zero, List.set_cons_succ, i64_w, i32_w]
                    rfl
                  refine pure_ (i := 19) (N := some 44) (v := ?_) (a' := ?_) #[true, false, true, false, true, false, true, false, true, true, false, false, false, true, false, true, false, true, true, true, false, false, false, false, false, false, false, false] rfl rfl (any_of HT_.out (by kernel_rfl)) (fun _ _ _ h => h) (Or.inl ⟨by rfl, ?_⟩) ?_ ?_
                  rotate_left
                  · intro w'
                    go_simp
                    with_reducible rfl
                  rotate_left
                  · simp only [Act.put, List.setIfInBounds_toArray, List.set_cons_zero, List.set_cons_succ, i64_w, i32_w]
                    rfl
                  refine pure_ (i := 21) (N := some 46) (v := ?_) (a' := ?_) #[true, false, true, false, true, false, true, false, true, true, false, false, false, true, false, true, false, true, true, true, false, true, false, false, false, false, false, false] rfl rfl (any_of HT_.out (by kernel_rfl)) (fun _ _ _ h => h) (Or.inl ⟨by rfl, ?_⟩) ?_ ?_
                  rotate_left
                  · intro w'
                    go_simp
                    with_reducible rfl
                  rotate_left
                  · simp only [Act.put, List.setIfInBounds_toArray, List.set_cons_zero, List.set_cons_succ, i64_w, i32_w]
                    rfl
                  refine pure_ (i := 22) (N := some 47) (v := ?_) (a' := ?_) #[true, false, true, false, true, false, true, false, true, true, false, false, false, true, false, true, false, true, true, true, false, true, true, false, false, false, false, false] rfl rfl (any_of HT_.out (by kernel_rfl)) (fun _ _ _ h => h) (Or.inl ⟨by rfl, ?_⟩) ?_ ?_
                  rotate_left
                  · intro w'
                    go_simp
                    with_reducible rfl
                  rotate_left
                  · simp only [Act.put, List.setIfInBounds_toArray, List.set_cons_zero, List.set_cons_succ, i64_w, i32_w]
                    rfl
                  refine pure_ (i := 23) (N := some 48) (v := ?_) (a' := ?_) #[true, false, true, false, true, false, true, false, true, true, false, false, false, true, false, true, false, true, true, true, false, true, true, true, false, false, false, false] rfl rfl (any_of HT_.out (by kernel_rfl)) (fun _ _ _ h => h) (Or.inl ⟨by rfl, ?_⟩) ?_ ?_
                  rotate_left
                  · intro w'
                    go_simp
                    with_reducible rfl
                  rotate_left
                  · simp only [Act.put, List.setIfInBounds_toArray, List.set_cons_zero, List.set_cons_succ, i64_w, i32_w]
                    rfl
                  refine take_ (i := 10) (N := some 35) (v := ?_) (a' := ?_) #[true, false, true, false, true, false, true, false, true, true, true, false, false, true, false, true, false, true, true, true, false, true, true, true, false, false, false, false] rfl rfl (take_ofW HT_.out HW_.out (by kernel_rfl)) (fun _ _ _ h => h) (Or.inl ⟨by rfl, ?_⟩) hHeld ?_ ?_
                  rotate_left
                  · intro w' s0
                    go_simp
                    with_reducible rfl
                  rotate_left
                  · simp only [Act.put, List.setIfInBounds_toArray, List.set_cons_zero, List.set_cons_succ, i64_w, i32_w]
                    rfl
                  refine pure_ (i := 11) (N := some 36) (v := ?_) (a' := ?_) #[true, false, true, false, true, false, true, false, true, true, true, true, false, true, false, true, false, true, true, true, false, true, true, true, false, false, false, false] rfl rfl (any_of HT_.out (by kernel_rfl)) (fun _ _ _ h => h) (Or.inl ⟨by rfl, ?_⟩) ?_ ?_
                  rotate_left
                  · intro w'
                    go_simp
                    with_reducible rfl
                  rotate_left
                  · simp only [Act.put, List.setIfInBounds_toArray, List.set_cons_zero, List.set_cons_succ, i64_w, i32_w]
                    rfl
                  refine pure_ (i := 12) (N := some 37) (v := ?_) (a' := ?_) #[true, false, true, false, true, false, true, false, true, true, true, true, true, true, false, true, false, true, true, true, false, true, true, true, false, false, false, false] rfl rfl (any_of HT_.out (by kernel_rfl)) (fun _ _ _ h => h) (Or.inl ⟨by rfl, ?_⟩) ?_ ?_
                  rotate_left
                  · intro w'
                    go_simp
                    with_reducible rfl
                  rotate_left
                  · simp only [Act.put, List.setIfInBounds_toArray, List.set_cons_zero, List.set_cons_succ, i64_w, i32_w]
                    rfl
                  refine one_ (i := 1) (N := some 26) #[true, true, true, false, true, false, true, false, true, true, true, true, true, true, false, true, false, true, true, true, false, true, true, true, false, false, false, false] rfl rfl (one_of HT_.out (by kernel_rfl)) (by decide) (fun K hK => ?_)
                  refine goes_ Try.func42 (by kernel_rfl) rfl #[.slice (some ad135) l0.length c0, .int .i64 0] (by rfl) rfl rfl (by (try simp only [List.map_toArray, List.map_cons, List.map_nil]); first | done | rfl | (simp only [List.length_drop, List.length_take]; rfl)) ?_
                  with_reducible refine (word_Get16.calls _ _ l0 0 t136 _ ?side1 ?side2 A12.out).mono ?_
                  (case side1 => repeat (first | exact (Kd.C_below HR0.out HB.out) | (with_reducible refine Kd.C_alloc ?_ _) | (with_reducible refine Kd.C_drewN ?_ _) | (with_reducible refine Kd.C_drew ?_)))
                  (case side2 => exact HC0.out)
                  rintro e w' ⟨rfl, ⟨nd, rfl⟩⟩
                  refine ⟨_, rfl, ?_⟩
                  refine hK.out _ _ (((HB.out.cell (World.block_lt_of_cell? w _ hw140_0)).trans hw140_0)) (fun hHeld => ?_)
                  clear hK K
                  refine norm_ (a' := ?_) ?_ ?_
                  rotate_left
                  · show Act.put _ (some 26) _ = _
                    simp only [Act.put, List.setIfInBounds_toArray, List.set_cons_zero, List.set_cons_succ, i64_w, i32_w]
                    rfl
                  refine one_ (i := 3) (N := some 28) #[true, true, true, true, true, false, true, false, true, true, true, true, true, true, false, true, false, true, true, true, false, true, true, true, false, false, false, false] rfl rfl (one_of HT_.out (by kernel_rfl)) (by decide) (fun K hK => ?_)
                  refine goes_ Try.func42 (by kernel_rfl) rfl #[.slice (some ad135) l0.length c0, .int .i64 2] (by rfl) rfl rfl (by (try simp only [List.map_toArray, List.map_cons, List.map_nil]); first | done | rfl | (simp only [List.length_drop, List.length_take]; rfl)) ?_
                  with_reducible refine (word_Get16.calls _ _ l0 2 t137 _ ?side1 ?side2 A13.out).mono ?_
                  (case side1 => repeat (first | exact (Kd.C_below HR0.out (by repeat (first | (with_reducible first | exact HB.out | apply below_alloc | apply pw_below_drewN | apply below_drew1 | refine below_set ?_ GE134.out) | exact HB.out))) | (with_reducible refine Kd.C_alloc ?_ _) | (with_reducible refine Kd.C_drewN ?_ _) | (with_reducible refine Kd.C_drew ?_)))
                  (case side2 => exact HC0.out)
                  rintro e w' ⟨rfl, ⟨nd, rfl⟩⟩
                  refine ⟨_, rfl, ?_⟩
                  refine hK.out _ _ (((HB.out.cell (World.block_lt_of_cell? w _ hw140_0)).trans hw140_0)) (fun hHeld => ?_)
                  clear hK K
                  refine norm_ (a' := ?_) ?_ ?_
                  rotate_left
                  · show Act.put _ (some 28) _ = _
                    simp only [Act.put, List.setIfInBounds_toArray, List.set_cons_zero, List.set_cons_succ, i64_w, i32_w]
                    rfl
                  refine one_ (i := 5) (N := some 30) #[true, true, true, true, true, true, true, false, true, true, true, true, true, true, false, true, false, true, true, true, false, true, true, true, false, false, false, false] rfl rfl (one_of HT_.out (by kernel_rfl)) (by decide) (fun K hK => ?_)
                  refine goes_ Try.func43 (by kernel_rfl) rfl #[.slice (some ad135) l0.length c0, .int .i64 4] (by rfl) rfl rfl (by (try simp only [List.map_toArray, List.map_cons, List.map_nil]); first | done | rfl | (simp only [List.length_drop, List.length_take]; rfl)) ?_
                  with_reducible refine (word_Get32.calls k _ _ l0 4 t138 _ ?side1 ?side2 A14.out).mono ?_
                  (case side1 => repeat (first | exact (Kd.C_below HR0.out (by repeat (first | (with_reducible first | exact HB.out | apply below_alloc | apply pw_below_drewN | apply below_drew1 | refine below_set ?_ GE134.out) | exact HB.out))) | (with_reducible refine Kd.C_alloc ?_ _) | (with_reducible refine Kd.C_drewN ?_ _) | (with_reducible refine Kd.C_drew ?_)))
                  (case side2 => exact HC0.out)
                  rintro e w' ⟨rfl, ⟨nd, rfl⟩⟩
                  refine ⟨_, rfl, ?_⟩
                  refine hK.out _ _ (((HB.out.cell (World.block_lt_of_cell? w _ hw140_0)).trans hw140_0)) (fun hHeld => ?_)
                  clear hK K
                  refine norm_ (a' := ?_) ?_ ?_
                  rotate_left
                  · show Act.put _ (some 30) _ = _
                    simp only [Act.put, List.setIfInBounds_toArray, List.set_cons_zero, List.set_cons_succ, i64_w, i32_w]
                    rfl
                  refine one_ (i := 7) (N := some 32) #[true, true, true, true, true, true, true, true, true, true, true, true, true, true, false, true, false, true, true, true, false, true, true, true, false, false, false, false] rfl rfl (one_of HT_.out (by kernel_rfl)) (by decide) (fun K hK => ?_)
                  refine goes_ Try.func43 (by kernel_rfl) rfl #[.slice (some ad135) l0.length c0, .int .i64 8] (by rfl) rfl rfl (by (try simp only [List.map_toArray, List.map_cons, List.map_nil]); first | done | rfl | (simp only [List.length_drop, List.length_take]; rfl)) ?_
                  with_reducible refine (word_Get32.calls k _ _ l0 8 t139 _ ?side1 ?side2 A15.out).mono ?_
                  (case side1 => repeat (first | exact (Kd.C_below HR0.out (by repeat (first | (with_reducible first | exact HB.out | apply below_alloc | apply pw_below_drewN | apply below_drew1 | refine below_set ?_ GE134.out) | exact HB.out))) | (with_reducible refine Kd.C_alloc ?_ _) | (with_reducible refine Kd.C_drewN ?_ _) | (with_reducible refine Kd.C_drew ?_)))
                  (case side2 => exact HC0.out)
                  rintro e w' ⟨rfl, ⟨nd, rfl⟩⟩
                  refine ⟨_, rfl, ?_⟩
                  refine hK.out _ _ (((HB.out.cell (World.block_lt_of_cell? w _ hw140_0)).trans hw140_0)) (fun hHeld => ?_)
                  clear hK K
                  refine norm_ (a' := ?_) ?_ ?_
                  rotate_left
                  · show Act.put _ (some 32) _ = _
                    simp only [Act.put, List.setIfInBounds_toArray, List.set_cons_zero, List.set_cons_succ, i64_w, i32_w]
                    rfl
                  refine one_ (i := 14) (N := some 39) #[true, true, true, true, true, true, true, true, true, true, true, true, true, true, true, true, false, true, true, true, false, true, true, true, false, false, false, false] rfl rfl (one_of HT_.out (by kernel_rfl)) (by decide) (fun K hK => ?_)
                  refine goes_ Try.func42 (by kernel_rfl) rfl #[.slice (some ad135) l0.length c0, .int .i64 14] (by rfl) rfl rfl (by (try simp only [List.map_toArray, List.map_cons, List.map_nil]); first | done | rfl | (simp only [List.length_drop, List.length_take]; rfl)) ?_
                  with_reducible refine (word_Get16.calls _ _ l0 14 t141 _ ?side1 ?side2 A17.out).mono ?_
                  (case side1 => repeat (first | exact (Kd.C_below HR0.out (by repeat (first | (with_reducible first | exact HB.out | apply below_alloc | apply pw_below_drewN | apply below_drew1 | refine below_set ?_ GE134.out) | exact HB.out))) | (with_reducible refine Kd.C_alloc ?_ _) | (with_reducible refine Kd.C_drewN ?_ _) | (with_reducible refine Kd.C_drew ?_)))
                  (case side2 => exact HC0.out)
                  rintro e w' ⟨rfl, ⟨nd, rfl⟩⟩
                  refine ⟨_, rfl, ?_⟩
                  refine hK.out _ _ (((HB.out.cell (World.block_lt_of_cell? w _ hw140_0)).trans hw140_0)) (fun hHeld => ?_)
                  clear hK K
                  refine norm_ (a' := ?_) ?_ ?_
                  rotate_left
                  · show Act.put _ (some 39) _ = _
                    simp only [Act.put, List.setIfInBounds_toArray, List.set_cons_zero, List.set_cons_succ, i64_w, i32_w]
                    rfl
                  refine one_ (i := 16) (N := some 41) #[true, true, true, true, true, true, true, true, true, true, true, true, true, true, true, true, true, true, true, true, false, true, true, true, false, false, false, false] rfl rfl (one_of HT_.out (by kernel_rfl)) (by decide) (fun K hK => ?_)
                  refine goes_ Try.func42 (by kernel_rfl) rfl #[.slice (some ad135) l0.length c0, .int .i64 18] (by rfl) rfl rfl (by (try simp only [List.map_toArray, List.map_cons, List.map_nil]); first | done | rfl | (simp only [List.length_drop, List.length_take]; rfl)) ?_
                  with_reducible refine (word_Get16.calls _ _ l0 18 t142 _ ?side1 ?side2 A18.out).mono ?_
                  (case side1 => repeat (first | exact (Kd.C_below HR0.out (by repeat (first | (with_reducible first | exact HB.out | apply below_alloc | apply pw_below_drewN | apply below_drew1 | refine below_set ?_ GE134.out) | exact HB.out))) | (with_reducible refine Kd.C_alloc ?_ _) | (with_reducible refine Kd.C_drewN ?_ _) | (with_reducible refine Kd.C_drew ?_)))
                  (case side2 => exact HC0.out)
                  rintro e w' ⟨rfl, ⟨nd, rfl⟩⟩
                  refine ⟨_, rfl, ?_⟩
                  refine hK.out _ _ (((HB.out.cell (World.block_lt_of_cell? w _ hw140_0)).trans hw140_0)) (fun hHeld => ?_)
                  clear hK K
                  refine norm_ (a' := ?_) ?_ ?_
                  rotate_left
                  · show Act.put _ (some 41) _ = _
                    simp only [Act.put, List.setIfInBounds_toArray, List.set_cons_zero, List.set_cons_succ, i64_w, i32_w]
                    rfl
                  refine one_ (i := 20) (N := some 45) #[true, true, true, true, true, true, true, true, true, true, true, true, true, true, true, true, true, true, true, true, true, true, true, true, false, false, false, false] rfl rfl (one_of HT_.out (by kernel_rfl)) (by decide) (fun K hK => ?_)
                  refine goes_ Try.func40 (by kernel_rfl) rfl #[.slice A28 ((l0.take ((ji22) : Int).toNat).drop 20).length (c0 - 20)] (by rfl) rfl rfl (by (try simp only [List.map_toArray, List.map_cons, List.map_nil]); first | done | (rw [show ((l0.take ((ji22) : Int).toNat).drop 20).length = ((ji22).toNat - 20) from (by rw [List.length_drop, List.length_take]; have h_ : ((ji22) : Int) ≤ (l0.length : Int) := of_decide_eq_true (by first | (with_reducible assumption) | assumption); omega)] <;> rfl) | (simp only [hji22]; rfl) | rfl | (simp only [List.length_drop, List.length_take]; rfl)) ?_
                  with_reducible refine (bytes_Clone.calls _ _ ((l0.take ((ji22) : Int).toNat).drop 20) t144 _ ?side1 ?side2 A21.out).mono ?_
                  (case side1 => repeat (first | exact (Kd.C_below HR143.out (by repeat (first | (with_reducible first | exact HB.out | apply below_alloc | apply pw_below_drewN | apply below_drew1 | refine below_set ?_ GE134.out) | exact HB.out))) | (with_reducible refine Kd.C_alloc ?_ _) | (with_reducible refine Kd.C_drewN ?_ _) | (with_reducible refine Kd.C_drew ?_)))
                  (case side2 => exact HC143.out)
                  rintro e w30 ⟨v145, rfl, ho0, hb⟩
                  refine ⟨_, rfl, ?_⟩
                  have n0_ := Aside0.mk (Kd.R_lower ho0 (below_size (by repeat (first | (with_reducible first | exact HB.out | apply below_alloc | apply pw_below_drewN | apply below_drew1 | refine below_set ?_ GE134.out) | exact HB.out))))
                  have n1_ := Aside0.mk (blk_below (g := gb134) (o := .cells #[.int .i64 0, .int .i64 0, .int .u32 0, .int .u32 0, .int .i64 0, .int .i64 0, .int .i64 0, .slice none 0 0, .slice none 0 0] 27 (0, 0)) (by (with_reducible repeat (first | refine blk_drewN ?_ _ | refine blk_drew ?_ | refine blk_alloc ?_ _)); exact BK134.out) hb)
                  have n2_ := Aside0.mk (below_step (by repeat (first | (with_reducible first | exact HB.out | apply below_alloc | apply pw_below_drewN | apply below_drew1 | refine below_set ?_ GE134.out) | exact HB.out)) hb)
                  clear BK134
                  clear HB
                  have HO146 := n0_
                  have BK134 := n1_
                  have HB := n2_
                  clear n0_ n1_ n2_
                  (try clear hb)
                  (try clear hb2)
                  (try clear hk)
                  (try clear hi)
                  (try clear ho0)
                  refine hK.out _ _ (((HB.out.cell (World.block_lt_of_cell? w _ hw140_0)).trans hw140_0)) (fun hHeld => ?_)
                  clear hK K
                  refine norm_ (a' := ?_) ?_ ?_
                  rotate_left
                  · show Act.put _ (some 45) _ = _
                    simp only [Act.put, List.setIfInBounds_toArray, List.set_cons_zero, List.set_cons_succ, i64_w, i32_w]
                    rfl
                  refine one_ (i := 24) (N := some 49) #[true, true, true, true, true, true, true, true, true, true, true, true, true, true, true, true, true, true, true, true, true, true, true, true, true, false, false, false] rfl rfl (one_of HT_.out (by kernel_rfl)) (by decide) (fun K hK => ?_)
                  refine goes_ Try.func40 (by kernel_rfl) rfl #[.slice A29 (l0.drop ((ji22) : Int).toNat).length (c0 - (ji22).toNat)] (by rfl) rfl rfl (by (try simp only [List.map_toArray, List.map_cons, List.map_nil]); first | done | (rw [show (l0.drop ((ji22) : Int).toNat).length = (l0.length - (ji22).toNat) from List.length_drop] <;> rfl) | (simp only [hji22]; rfl) | rfl | (simp only [List.length_drop, List.length_take]; rfl)) ?_
                  with_reducible refine (bytes_Clone.calls _ _ (l0.drop ((ji22) : Int).toNat) t148 _ ?side1 ?side2 A25.out).mono ?_
                  (case side1 => repeat (first | exact (Kd.C_below HR147.out HB.out) | (with_reducible refine Kd.C_alloc ?_ _) | (with_reducible refine Kd.C_drewN ?_ _) | (with_reducible refine Kd.C_drew ?_)))
                  (case side2 => exact HC147.out)
                  rintro e w31 ⟨v149, rfl, ho0, hb⟩
                  refine ⟨_, rfl, ?_⟩
                  have n0_ := Aside0.mk (Kd.R_elder' (by (with_reducible repeat (first | apply Kd.R_alloc | apply Kd.R_drewN | apply Kd.R_drew)); exact HO146.out) (Kd.R_base ho0) hb)
                  have n1_ := Aside0.mk (Kd.R_lower (Kd.R_new' ho0 (Kd.R_lt (by (with_reducible repeat (first | apply Kd.R_alloc | apply Kd.R_drewN | apply Kd.R_drew)); exact HO146.out))) (below_size (by repeat (first | (with_reducible first | exact HB.out | apply below_alloc | apply pw_below_drewN | apply below_drew1 | refine below_set ?_ GE134.out) | exact HB.out))))
                  have n2_ := Aside0.mk (blk_below (g := gb134) (o := .cells #[.int .i64 0, .int .i64 0, .int .u32 0, .int .u32 0, .int .i64 0, .int .i64 0, .int .i64 0, .slice none 0 0, .slice none 0 0] 27 (0, 0)) (by (with_reducible repeat (first | refine blk_drewN ?_ _ | refine blk_drew ?_ | refine blk_alloc ?_ _)); exact BK134.out) hb)
                  have n3_ := Aside0.mk (below_step (by repeat (first | (with_reducible first | exact HB.out | apply below_alloc | apply pw_below_drewN | apply below_drew1 | refine below_set ?_ GE134.out) | exact HB.out)) hb)
                  clear HO146
                  clear BK134
                  clear HB
                  have HO146 := n0_
                  have HO150 := n1_
                  have BK134 := n2_
                  have HB := n3_
                  clear n0_ n1_ n2_ n3_
                  (try clear hb)
                  (try clear hb2)
                  (try clear hk)
                  (try clear hi)
                  (try clear ho0)
                  obtain ⟨Ao32, co32, eo32⟩ := Kd.R_slice HO150.out
                  (first | subst eo32 | (injection eo32 with f1_ f2_ f3_; have f4_ := f1_.symm; have f5_ := f3_.symm; clear f1_ f2_ f3_; subst f4_; subst f5_))
                  obtain ⟨Ao33, co33, eo33⟩ := Kd.R_slice HO146.out
                  (first | subst eo33 | (injection eo33 with f1_ f2_ f3_; have f4_ := f1_.symm; have f5_ := f3_.symm; clear f1_ f2_ f3_; subst f4_; subst f5_))
                  refine hK.out _ _ (((HB.out.cell (World.block_lt_of_cell? w _ hw140_0)).trans hw140_0)) (fun hHeld => ?_)
                  clear hK K
                  refine norm_ (a' := ?_) ?_ ?_
                  rotate_left
                  · show Act.put _ (some 49) _ = _
                    simp only [Act.put, List.setIfInBounds_toArray, List.set_cons_zero, List.set_cons_succ, i64_w, i32_w]
                    rfl
                  refine pure_ (i := 25) (N := some 50) (v := ?_) (a' := ?_) #[true, true, true, true, true, true, true, true, true, true, true, true, true, true, true, true, true, true, true, true, true, true, true, true, true, true, false, false] rfl rfl (any_of HT_.out (by kernel_rfl)) (fun _ _ _ h => h) (Or.inl ⟨by rfl, ?_⟩) ?_ ?_
                  rotate_left
                  · intro w'
                    go_simp
                    with_reducible rfl
                  rotate_left
                  · simp only [Act.put, List.setIfInBounds_toArray, List.set_cons_zero, List.set_cons_succ, i64_w, i32_w]
                    rfl
                  refine one_ (i := 26) (N := none) #[true, true, true, true, true, true, true, true, true, true, true, true, true, true, true, true, true, true, true, true, true, true, true, true, true, true, true, false] rfl rfl (one_of HT_.out (by kernel_rfl)) (by decide) (fun K hK => ?_)
                  have hs34 : w31.cell? ⟨gb134, 0, none⟩ = some (.int .i64 0) := (blk_cell BK134.out 0).trans rfl
                  have hfs34 := blk_frozen BK134.out 0
                  have hs35 : w31.cell? ⟨gb134, 1, none⟩ = some (.int .i64 0) := (blk_cell BK134.out 1).trans rfl
                  have hfs35 := blk_frozen BK134.out 1
                  have hs36 : w31.cell? ⟨gb134, 2, none⟩ = some (.int .u32 0) := (blk_cell BK134.out 2).trans rfl
                  have hfs36 := blk_frozen BK134.out 2
                  have hs37 : w31.cell? ⟨gb134, 3, none⟩ = some (.int .u32 0) := (blk_cell BK134.out 3).trans rfl
                  have hfs37 := blk_frozen BK134.out 3
                  have hs38 : w31.cell? ⟨gb134, 4, none⟩ = some (.int .i64 0) := (blk_cell BK134.out 4).trans rfl
                  have hfs38 := blk_frozen BK134.out 4
                  have hs39 : w31.cell? ⟨gb134, 5, none⟩ = some (.int .i64 0) := (blk_cell BK134.out 5).trans rfl
                  have hfs39 := blk_frozen BK134.out 5
                  have hs40 : w31.cell? ⟨gb134, 6, none⟩ = some (.int .i64 0) := (blk_cell BK134.out 6).trans rfl
                  have hfs40 := blk_frozen BK134.out 6
                  have hs41 : w31.cell? ⟨gb134, 7, none⟩ = some (.slice none 0 0) := (blk_cell BK134.out 7).trans rfl
                  have hfs41 := blk_frozen BK134.out 7
                  have hs42 : w31.cell? ⟨gb134, 8, none⟩ = some (.slice none 0 0) := (blk_cell BK134.out 8).trans rfl
                  have hfs42 := blk_frozen BK134.out 8
                  refine skip_ (w1 := ?_) (by rfl) rfl ?_ ?_
                  rotate_left
                  · go_simp
                    rfl
                  refine hK.out _ _ (((cell_far (p := ⟨gb134, _, none⟩) (by first | exact Nat.ne_of_lt (Nat.lt_of_lt_of_le (by have := World.block_lt_of_cell? _ _ hw140_0; first | rwa [add_block] at this | exact this) GW134.out) | (rw [add_block]; exact Nat.ne_of_lt (Nat.lt_of_lt_of_le (by have := World.block_lt_of_cell? _ _ hw140_0; first | rwa [add_block] at this | exact this) GW134.out)) | (show (Addr.add _ _).block ≠ _; rw [add_block]; exact Nat.ne_of_lt (Nat.lt_of_lt_of_le (by have := World.block_lt_of_cell? _ _ hw140_0; first | rwa [add_block] at this | exact this) GW134.out)) | (dsimp only; exact Nat.ne_of_lt (Nat.lt_of_lt_of_le (by have := World.block_lt_of_cell? _ _ hw140_0; first | rwa [add_block] at this | exact this) GW134.out))) _).trans (((cell_far (p := ⟨gb134, _, none⟩) (by first | exact Nat.ne_of_lt (Nat.lt_of_lt_of_le (by have := World.block_lt_of_cell? _ _ hw140_0; first | rwa [add_block] at this | exact this) GW134.out) | (rw [add_block]; exact Nat.ne_of_lt (Nat.lt_of_lt_of_le (by have := World.block_lt_of_cell? _ _ hw140_0; first | rwa [add_block] at this | exact this) GW134.out)) | (show (Addr.add _ _).block ≠ _; rw [add_block]; exact Nat.ne_of_lt (Nat.lt_of_lt_of_le (by have := World.block_lt_of_cell? _ _ hw140_0; first | rwa [add_block] at this | exact this) GW134.out)) | (dsimp only; exact Nat.ne_of_lt (Nat.lt_of_lt_of_le (by have := World.block_lt_of_cell? _ _ hw140_0; first | rwa [add_block] at this | exact this) GW134.out))) _).trans (((cell_far (p := ⟨gb134, _, none⟩) (by first | exact Nat.ne_of_lt (Nat.lt_of_lt_of_le (by have := World.block_lt_of_cell? _ _ hw140_0; first | rwa [add_block] at this | exact this) GW134.out) | (rw [add_block]; exact Nat.ne_of_lt (Nat.lt_of_lt_of_le (by have := World.block_lt_of_cell? _ _ hw140_0; first | rwa [add_block] at this | exact this) GW134.out)) | (show (Addr.add _ _).block ≠ _; rw [add_block]; exact Nat.ne_of_lt (Nat.lt_of_lt_of_le (by have := World.block_lt_of_cell? _ _ hw140_0; first | rwa [add_block] at this | exact this) GW134.out)) | (dsimp only; exact Nat.ne_of_lt (Nat.lt_of_lt_of_le (by have := World.block_lt_of_cell? _ _ hw140_0; first | rwa [add_block] at this | exact this) GW134.out))) _).trans (((cell_far (p := ⟨gb134, _, none⟩) (by first | exact Nat.ne_of_lt (Nat.lt_of_lt_of_le (by have := World.block_lt_of_cell? _ _ hw140_0; first | rwa [add_block] at this | exact this) GW134.out) | (rw [add_block]; exact Nat.ne_of_lt (Nat.lt_of_lt_of_le (by have := World.block_lt_of_cell? _ _ hw140_0; first | rwa [add_block] at this | exact this) GW134.out)) | (show (Addr.add _ _).block ≠ _; rw [add_block]; exact Nat.ne_of_lt (Nat.lt_of_lt_of_le (by have := World.block_lt_of_cell? _ _ hw140_0; first | rwa [add_block] at this | exact this) GW134.out)) | (dsimp only; exact Nat.ne_of_lt (Nat.lt_of_lt_of_le (by have := World.block_lt_of_cell? _ _ hw140_0; first | rwa [add_block] at this | exact this) GW134.out))) _).trans (((cell_far (p := ⟨gb134, _, none⟩) (by first | exact Nat.ne_of_lt (Nat.lt_of_lt_of_le (by have := World.block_lt_of_cell? _ _ hw140_0; first | rwa [add_block] at this | exact this) GW134.out) | (rw [add_block]; exact Nat.ne_of_lt (Nat.lt_of_lt_of_le (by have := World.block_lt_of_cell? _ _ hw140_0; first | rwa [add_block] at this | exact this) GW134.out)) | (show (Addr.add _ _).block ≠ _; rw [add_block]; exact Nat.ne_of_lt (Nat.lt_of_lt_of_le (by have := World.block_lt_of_cell? _ _ hw140_0; first | rwa [add_block] at this | exact this) GW134.out)) | (dsimp only; exact Nat.ne_of_lt (Nat.lt_of_lt_of_le (by have := World.block_lt_of_cell? _ _ hw140_0; first | rwa [add_block] at this | exact this) GW134.out))) _).trans (((cell_far (p := ⟨gb134, _, none⟩) (by first | exact Nat.ne_of_lt (Nat.lt_of_lt_of_le (by have := World.block_lt_of_cell? _ _ hw140_0; first | rwa [add_block] at this | exact this) GW134.out) | (rw [add_block]; exact Nat.ne_of_lt (Nat.lt_of_lt_of_le (by have := World.block_lt_of_cell? _ _ hw140_0; first | rwa [add_block] at this | exact this) GW134.out)) | (show (Addr.add _ _).block ≠ _; rw [add_block]; exact Nat.ne_of_lt (Nat.lt_of_lt_of_le (by have := World.block_lt_of_cell? _ _ hw140_0; first | rwa [add_block] at this | exact this) GW134.out)) | (dsimp only; exact Nat.ne_of_lt (Nat.lt_of_lt_of_le (by have := World.block_lt_of_cell? _ _ hw140_0; first | rwa [add_block] at this | exact this) GW134.out))) _).trans (((cell_far (p := ⟨gb134, _, none⟩) (by first | exact Nat.ne_of_lt (Nat.lt_of_lt_of_le (by have := World.block_lt_of_cell? _ _ hw140_0; first | rwa [add_block] at this | exact this) GW134.out) | (rw [add_block]; exact Nat.ne_of_lt (Nat.lt_of_lt_of_le (by have := World.block_lt_of_cell? _ _ hw140_0; first | rwa [add_block] at this | exact this) GW134.out)) | (show (Addr.add _ _).block ≠ _; rw [add_block]; exact Nat.ne_of_lt (Nat.lt_of_lt_of_le (by have := World.block_lt_of_cell? _ _ hw140_0; first | rwa [add_block] at this | exact this) GW134.out)) | (dsimp only; exact Nat.ne_of_lt (Nat.lt_of_lt_of_le (by have := World.block_lt_of_cell? _ _ hw140_0; first | rwa [add_block] at this | exact this) GW134.out))) _).trans (((cell_far (p := ⟨gb134, _, none⟩) (by first | exact Nat.ne_of_lt (Nat.lt_of_lt_of_le (by have := World.block_lt_of_cell? _ _ hw140_0; first | rwa [add_block] at this | exact this) GW134.out) | (rw [add_block]; exact Nat.ne_of_lt (Nat.lt_of_lt_of_le (by have := World.block_lt_of_cell? _ _ hw140_0; first | rwa [add_block] at this | exact this) GW134.out)) | (show (Addr.add _ _).block ≠ _; rw [add_block]; exact Nat.ne_of_lt (Nat.lt_of_lt_of_le (by have := World.block_lt_of_cell? _ _ hw140_0; first | rwa [add_block] at this | exact this) GW134.out)) | (dsimp only; exact Nat.ne_of_lt (Nat.lt_of_lt_of_le (by have := World.block_lt_of_cell? _ _ hw140_0; first | rwa [add_block] at this | exact this) GW134.out))) _).trans (((cell_far (p := ⟨gb134, _, none⟩) (by first | exact Nat.ne_of_lt (Nat.lt_of_lt_of_le (by have := World.block_lt_of_cell? _ _ hw140_0; first | rwa [add_block] at this | exact this) GW134.out) | (rw [add_block]; exact Nat.ne_of_lt (Nat.lt_of_lt_of_le (by have := World.block_lt_of_cell? _ _ hw140_0; first | rwa [add_block] at this | exact this) GW134.out)) | (show (Addr.add _ _).block ≠ _; rw [add_block]; exact Nat.ne_of_lt (Nat.lt_of_lt_of_le (by have := World.block_lt_of_cell? _ _ hw140_0; first | rwa [add_block] at this | exact this) GW134.out)) | (dsimp only; exact Nat.ne_of_lt (Nat.lt_of_lt_of_le (by have := World.block_lt_of_cell? _ _ hw140_0; first | rwa [add_block] at this | exact this) GW134.out))) _).trans (hHeld))))))))))))))))))) (fun hHeld => ?_)
                  clear hK K
                  refine pure_ (i := 27) (N := some 3) (v := ?_) (a' := ?_) #[true, true, true, true, true, true, true, true, true, true, true, true, true, true, true, true, true, true, true, true, true, true, true, true, true, true, true, true] rfl rfl (any_of HT_.out (by kernel_rfl)) (fun _ _ _ h => h) (Or.inl ⟨by rfl, ?_⟩) ?_ ?_
                  rotate_left
                  · intro w'
                    go_simp
                    with_reducible rfl
                  rotate_left
                  · simp only [Act.put, List.setIfInBounds_toArray, List.set_cons_zero, List.set_cons_succ, i64_w, i32_w]
                    rfl
                  refine done_ (done_of HT_.out (by kernel_rfl)) ?_
                  try go_wp2
                  refine bodyPost_ret (results_ct rfl _ _ gb134 27 #[.int .i64 t136, .int .i64 t137, .int .u32 t138, .int .u32 t139, .int .i64 (wrap64 (Go.bits .and .u8 (rd l0 13) 63)), .int .i64 t141, .int .i64 t142, .slice Ao33 t144.length co33, .slice Ao32 t148.length co32] (0, 0) _ rfl (by (with_reducible repeat (first | refine blk_drewN ?_ _ | refine blk_drew ?_ | refine blk_alloc ?_ _)); refine blk_put (cs := #[.int .i64 t136, .int .i64 t137, .int .u32 t138, .int .u32 t139, .int .i64 (wrap64 (Go.bits .and .u8 (rd l0 13) 63)), .int .i64 t141, .int .i64 t142, .slice Ao33 t144.length co33, .slice none 0 0]) ?_ 8 _ rfl; (with_reducible repeat (first | refine blk_drewN ?_ _ | refine blk_drew ?_ | refine blk_alloc ?_ _)); refine blk_put (cs := #[.int .i64 t136, .int .i64 t137, .int .u32 t138, .int .u32 t139, .int .i64 (wrap64 (Go.bits .and .u8 (rd l0 13) 63)), .int .i64 t141, .int .i64 t142, .slice none 0 0, .slice none 0 0]) ?_ 7 _ rfl; (with_reducible repeat (first | refine blk_drewN ?_ _ | refine blk_drew ?_ | refine blk_alloc ?_ _)); refine blk_put (cs := #[.int .i64 t136, .int .i64 t137, .int .u32 t138, .int .u32 t139, .int .i64 (wrap64 (Go.bits .and .u8 (rd l0 13) 63)), .int .i64 t141, .int .i64 0, .slice none 0 0, .slice none 0 0]) ?_ 6 _ rfl; (with_reducible repeat (first | refine blk_drewN ?_ _ | refine blk_drew ?_ | refine blk_alloc ?_ _)); refine blk_put (cs := #[.int .i64 t136, .int .i64 t137, .int .u32 t138, .int .u32 t139, .int .i64 (wrap64 (Go.bits .and .u8 (rd l0 13) 63)), .int .i64 0, .int .i64 0, .slice none 0 0, .slice none 0 0]) ?_ 5 _ rfl; (with_reducible repeat (first | refine blk_drewN ?_ _ | refine blk_drew ?_ | refine blk_alloc ?_ _)); refine blk_put (cs := #[.int .i64 t136, .int .i64 t137, .int .u32 t138, .int .u32 t139, .int .i64 0, .int .i64 0, .int .i64 0, .slice none 0 0, .slice none 0 0]) ?_ 4 _ rfl; (with_reducible repeat (first | refine blk_drewN ?_ _ | refine blk_drew ?_ | refine blk_alloc ?_ _)); refine blk_put (cs := #[.int .i64 t136, .int .i64 t137, .int .u32 t138, .int .u32 0, .int .i64 0, .int .i64 0, .int .i64 0, .slice none 0 0, .slice none 0 0]) ?_ 3 _ rfl; (with_reducible repeat (first | refine blk_drewN ?_ _ | refine blk_drew ?_ | refine blk_alloc ?_ _)); refine blk_put (cs := #[.int .i64 t136, .int .i64 t137, .int .u32 0, .int .u32 0, .int .i64 0, .int .i64 0, .int .i64 0, .slice none 0 0, .slice none 0 0]) ?_ 2 _ rfl; (with_reducible repeat (first | refine blk_drewN ?_ _ | refine blk_drew ?_ | refine blk_alloc ?_ _)); refine blk_put (cs := #[.int .i64 t136, .int .i64 0, .int .u32 0, .int .u32 0, .int .i64 0, .int .i64 0, .int .i64 0, .slice none 0 0, .slice none 0 0]) ?_ 1 _ rfl; (with_reducible repeat (first | refine blk_drewN ?_ _ | refine blk_drew ?_ | refine blk_alloc ?_ _)); refine blk_put (cs := #[.int .i64 0, .int .i64 0, .int .u32 0, .int .u32 0, .int .i64 0, .int .i64 0, .int .i64 0, .slice none 0 0, .slice none 0 0]) ?_ 0 _ rfl; (with_reducible repeat (first | refine blk_drewN ?_ _ | refine blk_drew ?_ | refine blk_alloc ?_ _)); exact BK134.out) Try.underlying27 rfl (by kernel_rfl)) rfl ?_
                  exact ⟨_, _, by first | rfl | (simp [errW_none, errW_some] <;> rfl) | (simp only [← hji22]; first | rfl | (simp [errW_none, errW_some] <;> rfl)) | (simp [*, errW_none, errW_some] <;> rfl), by (with_reducible repeat (first | apply Kd.R_alloc | apply Kd.R_drewN | apply Kd.R_drew)); exact Kd.R_mono (Kd.R_far (p := ⟨gb134, 8, none⟩) (Kd.R_far (p := ⟨gb134, 7, none⟩) (Kd.R_far (p := ⟨gb134, 6, none⟩) (Kd.R_far (p := ⟨gb134, 5, none⟩) (Kd.R_far (p := ⟨gb134, 4, none⟩) (Kd.R_far (p := ⟨gb134, 3, none⟩) (Kd.R_far (p := ⟨gb134, 2, none⟩) (Kd.R_far (p := ⟨gb134, 1, none⟩) (Kd.R_far (p := ⟨gb134, 0, none⟩) (Kd.R_types HO146.out BK134.out (by decide)) (fun _ hk => hk.2) (.int .i64 t136)) (fun _ hk => hk.2) (.int .i64 t137)) (fun _ hk => hk.2) (.int .u32 t138)) (fun _ hk => hk.2) (.int .u32 t139)) (fun _ hk => hk.2) (.int .i64 (wrap64 (Go.bits .and .u8 (rd l0 13) 63)))) (fun _ hk => hk.2) (.int .i64 t141)) (fun _ hk => hk.2) (.int .i64 t142)) (fun _ hk => hk.2) (.slice Ao33 t144.length co33)) (fun _ hk => hk.2) (.slice Ao32 t148.length co32)) (fun _ hk => hk.1.2), by (with_reducible repeat (first | apply Kd.R_alloc | apply Kd.R_drewN | apply Kd.R_drew)); exact Kd.R_mono (Kd.R_far (p := ⟨gb134, 8, none⟩) (Kd.R_far (p := ⟨gb134, 7, none⟩) (Kd.R_far (p := ⟨gb134, 6, none⟩) (Kd.R_far (p := ⟨gb134, 5, none⟩) (Kd.R_far (p := ⟨gb134, 4, none⟩) (Kd.R_far (p := ⟨gb134, 3, none⟩) (Kd.R_far (p := ⟨gb134, 2, none⟩) (Kd.R_far (p := ⟨gb134, 1, none⟩) (Kd.R_far (p := ⟨gb134, 0, none⟩) (Kd.R_types HO150.out BK134.out (by decide)) (fun _ hk => hk.2) (.int .i64 t136)) (fun _ hk => hk.2) (.int .i64 t137)) (fun _ hk => hk.2) (.int .u32 t138)) (fun _ hk => hk.2) (.int .u32 t139)) (fun _ hk => hk.2) (.int .i64 (wrap64 (Go.bits .and .u8 (rd l0 13) 63)))) (fun _ hk => hk.2) (.int .i64 t141)) (fun _ hk => hk.2) (.int .i64 t142)) (fun _ hk => hk.2) (.slice Ao33 t144.length co33)) (fun _ hk => hk.2) (.slice Ao32 t148.length co32)) (fun _ hk => hk.1.2), by repeat (first | (with_reducible first | exact HB.out | apply below_alloc | apply pw_below_drewN | apply below_drew1 | refine below_set ?_ GE134.out) | exact HB.out)⟩
                · rw [if_neg c23] at H
                  exact absurd H (by simp)
              · rw [if_neg c20] at H
                exact absurd H (by simp)
            · rw [if_neg c19] at H
              exact absurd H (by simp)
          · rw [if_neg c16] at H
            exact absurd H (by simp)
    · rw [if_neg c5] at H
      exact absurd H (by simp)

/-! ### castellanref5_Same: function 23 -/
def castellanref5_Same.f (a0_0 : Int) (a0_1 : Int) (a0_2 : Int) (a0_3 : Int) (a0_4 : Int) (a0_5 : Int) (a0_6 : Int) (l0_7 : List Int) (l0_8 : List Int) (a1_0 : Int) (a1_1 : Int) (a1_2 : Int) (a1_3 : Int) (a1_4 : Int) (a1_5 : Int) (a1_6 : Int) (l1_7 : List Int) (l1_8 : List Int) : Option (Bool) := if a0_0 = a1_0 then (if a0_1 = a1_1 then (if a0_2 = a1_2 then (if a0_3 = a1_3 then (if a0_4 = a1_4 then (if a0_5 = a1_5 then (if a0_6 = a1_6 then (if (strOfNums l0_7).toList = (strOfNums l1_7).toList then (some ((strOfNums l0_8).toList == (strOfNums l1_8).toList)) else (some false)) else (some false)) else (some false)) else (some false)) else (some false)) else (some false)) else (some false)) else (some false)
set_option maxHeartbeats 8000000 in
set_option maxRecDepth 100000 in
theorem castellanref5_Same.calls (a0_0 : Int) (a0_1 : Int) (a0_2 : Int) (a0_3 : Int) (a0_4 : Int) (a0_5 : Int) (a0_6 : Int) (A0_7 : Option Addr) (c0_7 : Nat) (l0_7 : List Int) (A0_8 : Option Addr) (c0_8 : Nat) (l0_8 : List Int) (a1_0 : Int) (a1_1 : Int) (a1_2 : Int) (a1_3 : Int) (a1_4 : Int) (a1_5 : Int) (a1_6 : Int) (A1_7 : Option Addr) (c1_7 : Nat) (l1_7 : List Int) (A1_8 : Option Addr) (c1_8 : Nat) (l1_8 : List Int) (r : Bool) (w : World) (hr0_7 : Kd.C (Kd.int .u8) w A0_7 l0_7.length l0_7) (hc0_7 : l0_7.length ≤ c0_7) (hr0_8 : Kd.C (Kd.int .u8) w A0_8 l0_8.length l0_8) (hc0_8 : l0_8.length ≤ c0_8) (hr1_7 : Kd.C (Kd.int .u8) w A1_7 l1_7.length l1_7) (hc1_7 : l1_7.length ≤ c1_7) (hr1_8 : Kd.C (Kd.int .u8) w A1_8 l1_8.length l1_8) (hc1_8 : l1_8.length ≤ c1_8) (h : castellanref5_Same.f a0_0 a0_1 a0_2 a0_3 a0_4 a0_5 a0_6 l0_7 l0_8 a1_0 a1_1 a1_2 a1_3 a1_4 a1_5 a1_6 l1_7 l1_8 = some r) :
    Calls Try.prog 23 #[.agg #[.int .i64 a0_0, .int .i64 a0_1, .int .u32 a0_2, .int .u32 a0_3, .int .i64 a0_4, .int .i64 a0_5, .int .i64 a0_6, .slice A0_7 l0_7.length c0_7, .slice A0_8 l0_8.length c0_8], .agg #[.int .i64 a1_0, .int .i64 a1_1, .int .u32 a1_2, .int .u32 a1_3, .int .i64 a1_4, .int .i64 a1_5, .int .i64 a1_6, .slice A1_7 l1_7.length c1_7, .slice A1_8 l1_8.length c1_8]] w fun e w' => e = .returned (.bool r) ∧ Below w.heap.size w w' := by
  have hu27 := Try.underlying27
  have HR0_7 := Aside0.mk hr0_7
  have HC0_7 := Aside0.mk hc0_7
  clear hr0_7 hc0_7
  have HR0_8 := Aside0.mk hr0_8
  have HC0_8 := Aside0.mk hc0_8
  clear hr0_8 hc0_8
  have HR1_7 := Aside0.mk hr1_7
  have HC1_7 := Aside0.mk hc1_7
  clear hr1_7 hc1_7
  have HR1_8 := Aside0.mk hr1_8
  have HC1_8 := Aside0.mk hc1_8
  clear hr1_8 hc1_8
  have HB := Aside0.mk (Below.refl w.heap.size w)
  have H : (if a0_0 = a1_0 then (if a0_1 = a1_1 then (if a0_2 = a1_2 then (if a0_3 = a1_3 then (if a0_4 = a1_4 then (if a0_5 = a1_5 then (if a0_6 = a1_6 then (if (strOfNums l0_7).toList = (strOfNums l1_7).toList then (some ((strOfNums l0_8).toList == (strOfNums l1_8).toList)) else (some false)) else (some false)) else (some false)) else (some false)) else (some false)) else (some false)) else (some false)) else (some false)) = some r := h
  clear h
  by_cases c3 : a0_0 = a1_0
  · rw [if_pos c3] at H
    have c3b0 : (a0_0 == a1_0) = true := beq_iff_eq.mpr c3
    have c3b1 : (a0_0 != a1_0) = false := bne_eq_false_iff_eq.mpr c3
    clear c3
    by_cases c4 : a0_1 = a1_1
    · rw [if_pos c4] at H
      have c4b0 : (a0_1 == a1_1) = true := beq_iff_eq.mpr c4
      have c4b1 : (a0_1 != a1_1) = false := bne_eq_false_iff_eq.mpr c4
      clear c4
      by_cases c5 : a0_2 = a1_2
      · rw [if_pos c5] at H
        have c5b0 : (a0_2 == a1_2) = true := beq_iff_eq.mpr c5
        have c5b1 : (a0_2 != a1_2) = false := bne_eq_false_iff_eq.mpr c5
        clear c5
        by_cases c6 : a0_3 = a1_3
        · rw [if_pos c6] at H
          have c6b0 : (a0_3 == a1_3) = true := beq_iff_eq.mpr c6
          have c6b1 : (a0_3 != a1_3) = false := bne_eq_false_iff_eq.mpr c6
          clear c6
          by_cases c7 : a0_4 = a1_4
          · rw [if_pos c7] at H
            have c7b0 : (a0_4 == a1_4) = true := beq_iff_eq.mpr c7
            have c7b1 : (a0_4 != a1_4) = false := bne_eq_false_iff_eq.mpr c7
            clear c7
            by_cases c8 : a0_5 = a1_5
            · rw [if_pos c8] at H
              have c8b0 : (a0_5 == a1_5) = true := beq_iff_eq.mpr c8
              have c8b1 : (a0_5 != a1_5) = false := bne_eq_false_iff_eq.mpr c8
              clear c8
              by_cases c9 : a0_6 = a1_6
              · rw [if_pos c9] at H
                have c9b0 : (a0_6 == a1_6) = true := beq_iff_eq.mpr c9
                have c9b1 : (a0_6 != a1_6) = false := bne_eq_false_iff_eq.mpr c9
                clear c9
                by_cases c10 : (strOfNums l0_7).toList = (strOfNums l1_7).toList
                · rw [if_pos c10] at H
                  have c10b0 : ((strOfNums l0_7).toList == (strOfNums l1_7).toList) = true := beq_iff_eq.mpr c10
                  have c10b1 : ((strOfNums l0_7).toList != (strOfNums l1_7).toList) = false := bne_eq_false_iff_eq.mpr c10
                  clear c10
                  obtain rfl := Option.some.inj H
                  go_enter Try.func23, Try.ntmps23
                  go_wp2_with (first | ((with_reducible refine gate_dst (N := 2) rfl ?_); refine box_event ?hg (N := 2) ?hd (cs := #[.int .i64 a0_0, .int .i64 a0_1, .int .u32 a0_2, .int .u32 a0_3, .int .i64 a0_4, .int .i64 a0_5, .int .i64 a0_6, .slice A0_7 l0_7.length c0_7, .slice A0_8 l0_8.length c0_8]) (t := 27) ?hr ?_; (case hd => rfl); (case hg => rfl); (case hr => first | (go_simp; done) | (go_simp; rfl)); intro gb151 hg w11 hbox hb; have n0_ := Aside0.mk (below_step (by repeat (first | (with_reducible first | exact HB.out | apply below_alloc | apply pw_below_drewN | apply below_drew1) | exact HB.out)) hb); have n1_ := Aside0.mk (hbox); have n2_ := Aside0.mk ((by rw [hg]; exact (below_size (by repeat (first | (with_reducible first | exact HB.out | apply below_alloc | apply pw_below_drewN | apply below_drew1) | exact HB.out))) : w.heap.size ≤ gb151)); have n3_ := Aside0.mk ((by rw [hg]; exact (below_size (by repeat (first | (with_reducible first | exact HB.out | apply below_alloc | apply pw_below_drewN | apply below_drew1) | exact HB.out))) : w.heap.size ≤ gb151)); clear HB; have HB := n0_; have BK151 := n1_; have GW151 := n2_; have GE151 := n3_; clear n0_ n1_ n2_ n3_; clear hb hbox hg) | ((with_reducible refine gate_dst (N := 3) rfl ?_); refine box_event ?hg (N := 3) ?hd (cs := #[.int .i64 a1_0, .int .i64 a1_1, .int .u32 a1_2, .int .u32 a1_3, .int .i64 a1_4, .int .i64 a1_5, .int .i64 a1_6, .slice A1_7 l1_7.length c1_7, .slice A1_8 l1_8.length c1_8]) (t := 27) ?hr ?_; (case hd => rfl); (case hg => rfl); (case hr => first | (go_simp; done) | (go_simp; rfl)); intro gb152 hg w12 hbox hb; have n0_ := Aside0.mk (blk_below (g := gb151) (o := .cells #[.int .i64 a0_0, .int .i64 a0_1, .int .u32 a0_2, .int .u32 a0_3, .int .i64 a0_4, .int .i64 a0_5, .int .i64 a0_6, .slice A0_7 l0_7.length c0_7, .slice A0_8 l0_8.length c0_8] 27 (0, 0)) (by (with_reducible repeat (first | refine blk_drewN ?_ _ | refine blk_drew ?_ | refine blk_alloc ?_ _)); exact BK151.out) hb); have n1_ := Aside0.mk (below_step (by repeat (first | (with_reducible first | exact HB.out | apply below_alloc | apply pw_below_drewN | apply below_drew1 | refine below_set ?_ GE151.out) | exact HB.out)) hb); have n2_ := Aside0.mk (hbox); have n3_ := Aside0.mk ((by rw [hg]; exact (below_size (by repeat (first | (with_reducible first | exact HB.out | apply below_alloc | apply pw_below_drewN | apply below_drew1 | refine below_set ?_ GE151.out) | exact HB.out))) : w.heap.size ≤ gb152)); have n4_ := Aside0.mk ((by rw [hg]; exact (below_size (by repeat (first | (with_reducible first | exact HB.out | apply below_alloc | apply pw_below_drewN | apply below_drew1 | refine below_set ?_ GE151.out) | exact HB.out))) : w.heap.size ≤ gb152)); have n5_ := Aside0.mk ((by rw [hg]; exact Nat.ne_of_lt (blk_lt (g := gb151) (o := .cells #[.int .i64 a0_0, .int .i64 a0_1, .int .u32 a0_2, .int .u32 a0_3, .int .i64 a0_4, .int .i64 a0_5, .int .i64 a0_6, .slice A0_7 l0_7.length c0_7, .slice A0_8 l0_8.length c0_8] 27 (0, 0)) (by (with_reducible repeat (first | refine blk_drewN ?_ _ | refine blk_drew ?_ | refine blk_alloc ?_ _)); exact BK151.out)) : gb151 ≠ gb152)); have n6_ := Aside0.mk ((by rw [hg]; exact Nat.ne_of_gt (blk_lt (g := gb151) (o := .cells #[.int .i64 a0_0, .int .i64 a0_1, .int .u32 a0_2, .int .u32 a0_3, .int .i64 a0_4, .int .i64 a0_5, .int .i64 a0_6, .slice A0_7 l0_7.length c0_7, .slice A0_8 l0_8.length c0_8] 27 (0, 0)) (by (with_reducible repeat (first | refine blk_drewN ?_ _ | refine blk_drew ?_ | refine blk_alloc ?_ _)); exact BK151.out)) : gb152 ≠ gb151)); clear BK151; clear HB; have BK151 := n0_; have HB := n1_; have BK152 := n2_; have GW152 := n3_; have GE152 := n4_; have NB151_152 := n5_; have NB152_151 := n6_; clear n0_ n1_ n2_ n3_ n4_ n5_ n6_; clear hb hbox hg; have hnb13 := NB151_152.out; have hnc13 := NB152_151.out; have hcz14_0 : w12.cell? ⟨gb151, 0, none⟩ = some (.int .i64 a0_0) := (blk_cell BK151.out 0).trans rfl; have hcz14_1 : w12.cell? ⟨gb151, 1, none⟩ = some (.int .i64 a0_1) := (blk_cell BK151.out 1).trans rfl; have hcz14_2 : w12.cell? ⟨gb151, 2, none⟩ = some (.int .u32 a0_2) := (blk_cell BK151.out 2).trans rfl; have hcz14_3 : w12.cell? ⟨gb151, 3, none⟩ = some (.int .u32 a0_3) := (blk_cell BK151.out 3).trans rfl; have hcz14_4 : w12.cell? ⟨gb151, 4, none⟩ = some (.int .i64 a0_4) := (blk_cell BK151.out 4).trans rfl; have hcz14_5 : w12.cell? ⟨gb151, 5, none⟩ = some (.int .i64 a0_5) := (blk_cell BK151.out 5).trans rfl; have hcz14_6 : w12.cell? ⟨gb151, 6, none⟩ = some (.int .i64 a0_6) := (blk_cell BK151.out 6).trans rfl; have hcz14_7 : w12.cell? ⟨gb151, 7, none⟩ = some (.slice A0_7 l0_7.length c0_7) := (blk_cell BK151.out 7).trans rfl; have hcz14_8 : w12.cell? ⟨gb151, 8, none⟩ = some (.slice A0_8 l0_8.length c0_8) := (blk_cell BK151.out 8).trans rfl; have hfz14_0 := blk_frozen BK151.out 0; have hfz14_1 := blk_frozen BK151.out 1; have hfz14_2 := blk_frozen BK151.out 2; have hfz14_3 := blk_frozen BK151.out 3; have hfz14_4 := blk_frozen BK151.out 4; have hfz14_5 := blk_frozen BK151.out 5; have hfz14_6 := blk_frozen BK151.out 6; have hfz14_7 := blk_frozen BK151.out 7; have hfz14_8 := blk_frozen BK151.out 8; have hcz15_0 : w12.cell? ⟨gb152, 0, none⟩ = some (.int .i64 a1_0) := (blk_cell BK152.out 0).trans rfl; have hcz15_1 : w12.cell? ⟨gb152, 1, none⟩ = some (.int .i64 a1_1) := (blk_cell BK152.out 1).trans rfl; have hcz15_2 : w12.cell? ⟨gb152, 2, none⟩ = some (.int .u32 a1_2) := (blk_cell BK152.out 2).trans rfl; have hcz15_3 : w12.cell? ⟨gb152, 3, none⟩ = some (.int .u32 a1_3) := (blk_cell BK152.out 3).trans rfl; have hcz15_4 : w12.cell? ⟨gb152, 4, none⟩ = some (.int .i64 a1_4) := (blk_cell BK152.out 4).trans rfl; have hcz15_5 : w12.cell? ⟨gb152, 5, none⟩ = some (.int .i64 a1_5) := (blk_cell BK152.out 5).trans rfl; have hcz15_6 : w12.cell? ⟨gb152, 6, none⟩ = some (.int .i64 a1_6) := (blk_cell BK152.out 6).trans rfl; have hcz15_7 : w12.cell? ⟨gb152, 7, none⟩ = some (.slice A1_7 l1_7.length c1_7) := (blk_cell BK152.out 7).trans rfl; have hcz15_8 : w12.cell? ⟨gb152, 8, none⟩ = some (.slice A1_8 l1_8.length c1_8) := (blk_cell BK152.out 8).trans rfl; have hfz15_0 := blk_frozen BK152.out 0; have hfz15_1 := blk_frozen BK152.out 1; have hfz15_2 := blk_frozen BK152.out 2; have hfz15_3 := blk_frozen BK152.out 3; have hfz15_4 := blk_frozen BK152.out 4; have hfz15_5 := blk_frozen BK152.out 5; have hfz15_6 := blk_frozen BK152.out 6; have hfz15_7 := blk_frozen BK152.out 7; have hfz15_8 := blk_frozen BK152.out 8; have hcv16 := Kd.C_string (P := Try.prog) (A := A0_7) (c := c0_7) Try.underlying25 Try.underlying5 Try.underlying9 (Kd.C_below HR0_7.out HB.out); have hcv17 := Kd.C_string (P := Try.prog) (A := A1_7) (c := c1_7) Try.underlying25 Try.underlying5 Try.underlying9 (Kd.C_below HR1_7.out HB.out); have hcv18 := Kd.C_string (P := Try.prog) (A := A0_8) (c := c0_8) Try.underlying25 Try.underlying5 Try.underlying9 (Kd.C_below HR0_8.out HB.out); have hcv19 := Kd.C_string (P := Try.prog) (A := A1_8) (c := c1_8) Try.underlying25 Try.underlying5 Try.underlying9 (Kd.C_below HR1_8.out HB.out)))
                  go_ret
                  exact ⟨by first | rfl | (simp [errW_none, errW_some] <;> rfl) | (simp [*, errW_none, errW_some] <;> rfl), by repeat (first | (with_reducible first | exact HB.out | apply below_alloc | apply pw_below_drewN | apply below_drew1 | refine below_set ?_ GE151.out | refine below_set ?_ GE152.out) | exact HB.out)⟩
                · rw [if_neg c10] at H
                  have c10b0 : ((strOfNums l0_7).toList == (strOfNums l1_7).toList) = false := beq_eq_false_iff_ne.mpr c10
                  have c10b1 : ((strOfNums l0_7).toList != (strOfNums l1_7).toList) = true := bne_iff_ne.mpr c10
                  obtain rfl := Option.some.inj H
                  go_enter Try.func23, Try.ntmps23
                  go_wp2_with (first | ((with_reducible refine gate_dst (N := 2) rfl ?_); refine box_event ?hg (N := 2) ?hd (cs := #[.int .i64 a0_0, .int .i64 a0_1, .int .u32 a0_2, .int .u32 a0_3, .int .i64 a0_4, .int .i64 a0_5, .int .i64 a0_6, .slice A0_7 l0_7.length c0_7, .slice A0_8 l0_8.length c0_8]) (t := 27) ?hr ?_; (case hd => rfl); (case hg => rfl); (case hr => first | (go_simp; done) | (go_simp; rfl)); intro gb151 hg w20 hbox hb; have n0_ := Aside0.mk (below_step (by repeat (first | (with_reducible first | exact HB.out | apply below_alloc | apply pw_below_drewN | apply below_drew1) | exact HB.out)) hb); have n1_ := Aside0.mk (hbox); have n2_ := Aside0.mk ((by rw [hg]; exact (below_size (by repeat (first | (with_reducible first | exact HB.out | apply below_alloc | apply pw_below_drewN | apply below_drew1) | exact HB.out))) : w.heap.size ≤ gb151)); have n3_ := Aside0.mk ((by rw [hg]; exact (below_size (by repeat (first | (with_reducible first | exact HB.out | apply below_alloc | apply pw_below_drewN | apply below_drew1) | exact HB.out))) : w.heap.size ≤ gb151)); clear HB; have HB := n0_; have BK151 := n1_; have GW151 := n2_; have GE151 := n3_; clear n0_ n1_ n2_ n3_; clear hb hbox hg) | ((with_reducible refine gate_dst (N := 3) rfl ?_); refine box_event ?hg (N := 3) ?hd (cs := #[.int .i64 a1_0, .int .i64 a1_1, .int .u32 a1_2, .int .u32 a1_3, .int .i64 a1_4, .int .i64 a1_5, .int .i64 a1_6, .slice A1_7 l1_7.length c1_7, .slice A1_8 l1_8.length c1_8]) (t := 27) ?hr ?_; (case hd => rfl); (case hg => rfl); (case hr => first | (go_simp; done) | (go_simp; rfl)); intro gb152 hg w21 hbox hb; have n0_ := Aside0.mk (blk_below (g := gb151) (o := .cells #[.int .i64 a0_0, .int .i64 a0_1, .int .u32 a0_2, .int .u32 a0_3, .int .i64 a0_4, .int .i64 a0_5, .int .i64 a0_6, .slice A0_7 l0_7.length c0_7, .slice A0_8 l0_8.length c0_8] 27 (0, 0)) (by (with_reducible repeat (first | refine blk_drewN ?_ _ | refine blk_drew ?_ | refine blk_alloc ?_ _)); exact BK151.out) hb); have n1_ := Aside0.mk (below_step (by repeat (first | (with_reducible first | exact HB.out | apply below_alloc | apply pw_below_drewN | apply below_drew1 | refine below_set ?_ GE151.out) | exact HB.out)) hb); have n2_ := Aside0.mk (hbox); have n3_ := Aside0.mk ((by rw [hg]; exact (below_size (by repeat (first | (with_reducible first | exact HB.out | apply below_alloc | apply pw_below_drewN | apply below_drew1 | refine below_set ?_ GE151.out) | exact HB.out))) : w.heap.size ≤ gb152)); have n4_ := Aside0.mk ((by rw [hg]; exact (below_size (by repeat (first | (with_reducible first | exact HB.out | apply below_alloc | apply pw_below_drewN | apply below_drew1 | refine below_set ?_ GE151.out) | exact HB.out))) : w.heap.size ≤ gb152)); have n5_ := Aside0.mk ((by rw [hg]; exact Nat.ne_of_lt (blk_lt (g := gb151) (o := .cells #[.int .i64 a0_0, .int .i64 a0_1, .int .u32 a0_2, .int .u32 a0_3, .int .i64 a0_4, .int .i64 a0_5, .int .i64 a0_6, .slice A0_7 l0_7.length c0_7, .slice A0_8 l0_8.length c0_8] 27 (0, 0)) (by (with_reducible repeat (first | refine blk_drewN ?_ _ | refine blk_drew ?_ | refine blk_alloc ?_ _)); exact BK151.out)) : gb151 ≠ gb152)); have n6_ := Aside0.mk ((by rw [hg]; exact Nat.ne_of_gt (blk_lt (g := gb151) (o := .cells #[.int .i64 a0_0, .int .i64 a0_1, .int .u32 a0_2, .int .u32 a0_3, .int .i64 a0_4, .int .i64 a0_5, .int .i64 a0_6, .slice A0_7 l0_7.length c0_7, .slice A0_8 l0_8.length c0_8] 27 (0, 0)) (by (with_reducible repeat (first | refine blk_drewN ?_ _ | refine blk_drew ?_ | refine blk_alloc ?_ _)); exact BK151.out)) : gb152 ≠ gb151)); clear BK151; clear HB; have BK151 := n0_; have HB := n1_; have BK152 := n2_; have GW152 := n3_; have GE152 := n4_; have NB151_152 := n5_; have NB152_151 := n6_; clear n0_ n1_ n2_ n3_ n4_ n5_ n6_; clear hb hbox hg; have hnb22 := NB151_152.out; have hnc22 := NB152_151.out; have hcz23_0 : w21.cell? ⟨gb151, 0, none⟩ = some (.int .i64 a0_0) := (blk_cell BK151.out 0).trans rfl; have hcz23_1 : w21.cell? ⟨gb151, 1, none⟩ = some (.int .i64 a0_1) := (blk_cell BK151.out 1).trans rfl; have hcz23_2 : w21.cell? ⟨gb151, 2, none⟩ = some (.int .u32 a0_2) := (blk_cell BK151.out 2).trans rfl; have hcz23_3 : w21.cell? ⟨gb151, 3, none⟩ = some (.int .u32 a0_3) := (blk_cell BK151.out 3).trans rfl; have hcz23_4 : w21.cell? ⟨gb151, 4, none⟩ = some (.int .i64 a0_4) := (blk_cell BK151.out 4).trans rfl; have hcz23_5 : w21.cell? ⟨gb151, 5, none⟩ = some (.int .i64 a0_5) := (blk_cell BK151.out 5).trans rfl; have hcz23_6 : w21.cell? ⟨gb151, 6, none⟩ = some (.int .i64 a0_6) := (blk_cell BK151.out 6).trans rfl; have hcz23_7 : w21.cell? ⟨gb151, 7, none⟩ = some (.slice A0_7 l0_7.length c0_7) := (blk_cell BK151.out 7).trans rfl; have hcz23_8 : w21.cell? ⟨gb151, 8, none⟩ = some (.slice A0_8 l0_8.length c0_8) := (blk_cell BK151.out 8).trans rfl; have hfz23_0 := blk_frozen BK151.out 0; have hfz23_1 := blk_frozen BK151.out 1; have hfz23_2 := blk_frozen BK151.out 2; have hfz23_3 := blk_frozen BK151.out 3; have hfz23_4 := blk_frozen BK151.out 4; have hfz23_5 := blk_frozen BK151.out 5; have hfz23_6 := blk_frozen BK151.out 6; have hfz23_7 := blk_frozen BK151.out 7; have hfz23_8 := blk_frozen BK151.out 8; have hcz24_0 : w21.cell? ⟨gb152, 0, none⟩ = some (.int .i64 a1_0) := (blk_cell BK152.out 0).trans rfl; have hcz24_1 : w21.cell? ⟨gb152, 1, none⟩ = some (.int .i64 a1_1) := (blk_cell BK152.out 1).trans rfl; have hcz24_2 : w21.cell? ⟨gb152, 2, none⟩ = some (.int .u32 a1_2) := (blk_cell BK152.out 2).trans rfl; have hcz24_3 : w21.cell? ⟨gb152, 3, none⟩ = some (.int .u32 a1_3) := (blk_cell BK152.out 3).trans rfl; have hcz24_4 : w21.cell? ⟨gb152, 4, none⟩ = some (.int .i64 a1_4) := (blk_cell BK152.out 4).trans rfl; have hcz24_5 : w21.cell? ⟨gb152, 5, none⟩ = some (.int .i64 a1_5) := (blk_cell BK152.out 5).trans rfl; have hcz24_6 : w21.cell? ⟨gb152, 6, none⟩ = some (.int .i64 a1_6) := (blk_cell BK152.out 6).trans rfl; have hcz24_7 : w21.cell? ⟨gb152, 7, none⟩ = some (.slice A1_7 l1_7.length c1_7) := (blk_cell BK152.out 7).trans rfl; have hcz24_8 : w21.cell? ⟨gb152, 8, none⟩ = some (.slice A1_8 l1_8.length c1_8) := (blk_cell BK152.out 8).trans rfl; have hfz24_0 := blk_frozen BK152.out 0; have hfz24_1 := blk_frozen BK152.out 1; have hfz24_2 := blk_frozen BK152.out 2; have hfz24_3 := blk_frozen BK152.out 3; have hfz24_4 := blk_frozen BK152.out 4; have hfz24_5 := blk_frozen BK152.out 5; have hfz24_6 := blk_frozen BK152.out 6; have hfz24_7 := blk_frozen BK152.out 7; have hfz24_8 := blk_frozen BK152.out 8; have hcv25 := Kd.C_string (P := Try.prog) (A := A0_7) (c := c0_7) Try.underlying25 Try.underlying5 Try.underlying9 (Kd.C_below HR0_7.out HB.out); have hcv26 := Kd.C_string (P := Try.prog) (A := A1_7) (c := c1_7) Try.underlying25 Try.underlying5 Try.underlying9 (Kd.C_below HR1_7.out HB.out)))
                  go_ret
                  exact ⟨by first | rfl | (simp [errW_none, errW_some] <;> rfl) | (simp [*, errW_none, errW_some] <;> rfl), by repeat (first | (with_reducible first | exact HB.out | apply below_alloc | apply pw_below_drewN | apply below_drew1 | refine below_set ?_ GE151.out | refine below_set ?_ GE152.out) | exact HB.out)⟩
              · rw [if_neg c9] at H
                have c9b0 : (a0_6 == a1_6) = false := beq_eq_false_iff_ne.mpr c9
                have c9b1 : (a0_6 != a1_6) = true := bne_iff_ne.mpr c9
                obtain rfl := Option.some.inj H
                go_enter Try.func23, Try.ntmps23
                go_wp2_with (first | ((with_reducible refine gate_dst (N := 2) rfl ?_); refine box_event ?hg (N := 2) ?hd (cs := #[.int .i64 a0_0, .int .i64 a0_1, .int .u32 a0_2, .int .u32 a0_3, .int .i64 a0_4, .int .i64 a0_5, .int .i64 a0_6, .slice A0_7 l0_7.length c0_7, .slice A0_8 l0_8.length c0_8]) (t := 27) ?hr ?_; (case hd => rfl); (case hg => rfl); (case hr => first | (go_simp; done) | (go_simp; rfl)); intro gb151 hg w27 hbox hb; have n0_ := Aside0.mk (below_step (by repeat (first | (with_reducible first | exact HB.out | apply below_alloc | apply pw_below_drewN | apply below_drew1) | exact HB.out)) hb); have n1_ := Aside0.mk (hbox); have n2_ := Aside0.mk ((by rw [hg]; exact (below_size (by repeat (first | (with_reducible first | exact HB.out | apply below_alloc | apply pw_below_drewN | apply below_drew1) | exact HB.out))) : w.heap.size ≤ gb151)); have n3_ := Aside0.mk ((by rw [hg]; exact (below_size (by repeat (first | (with_reducible first | exact HB.out | apply below_alloc | apply pw_below_drewN | apply below_drew1) | exact HB.out))) : w.heap.size ≤ gb151)); clear HB; have HB := n0_; have BK151 := n1_; have GW151 := n2_; have GE151 := n3_; clear n0_ n1_ n2_ n3_; clear hb hbox hg) | ((with_reducible refine gate_dst (N := 3) rfl ?_); refine box_event ?hg (N := 3) ?hd (cs := #[.int .i64 a1_0, .int .i64 a1_1, .int .u32 a1_2, .int .u32 a1_3, .int .i64 a1_4, .int .i64 a1_5, .int .i64 a1_6, .slice A1_7 l1_7.length c1_7, .slice A1_8 l1_8.length c1_8]) (t := 27) ?hr ?_; (case hd => rfl); (case hg => rfl); (case hr => first | (go_simp; done) | (go_simp; rfl)); intro gb152 hg w28 hbox hb; have n0_ := Aside0.mk (blk_below (g := gb151) (o := .cells #[.int .i64 a0_0, .int .i64 a0_1, .int .u32 a0_2, .int .u32 a0_3, .int .i64 a0_4, .int .i64 a0_5, .int .i64 a0_6, .slice A0_7 l0_7.length c0_7, .slice A0_8 l0_8.length c0_8] 27 (0, 0)) (by (with_reducible repeat (first | refine blk_drewN ?_ _ | refine blk_drew ?_ | refine blk_alloc ?_ _)); exact BK151.out) hb); have n1_ := Aside0.mk (below_step (by repeat (first | (with_reducible first | exact HB.out | apply below_alloc | apply pw_below_drewN | apply below_drew1 | refine below_set ?_ GE151.out) | exact HB.out)) hb); have n2_ := Aside0.mk (hbox); have n3_ := Aside0.mk ((by rw [hg]; exact (below_size (by repeat (first | (with_reducible first | exact HB.out | apply below_alloc | apply pw_below_drewN | apply below_drew1 | refine below_set ?_ GE151.out) | exact HB.out))) : w.heap.size ≤ gb152)); have n4_ := Aside0.mk ((by rw [hg]; exact (below_size (by repeat (first | (with_reducible first | exact HB.out | apply below_alloc | apply pw_below_drewN | apply below_drew1 | refine below_set ?_ GE151.out) | exact HB.out))) : w.heap.size ≤ gb152)); have n5_ := Aside0.mk ((by rw [hg]; exact Nat.ne_of_lt (blk_lt (g := gb151) (o := .cells #[.int .i64 a0_0, .int .i64 a0_1, .int .u32 a0_2, .int .u32 a0_3, .int .i64 a0_4, .int .i64 a0_5, .int .i64 a0_6, .slice A0_7 l0_7.length c0_7, .slice A0_8 l0_8.length c0_8] 27 (0, 0)) (by (with_reducible repeat (first | refine blk_drewN ?_ _ | refine blk_drew ?_ | refine blk_alloc ?_ _)); exact BK151.out)) : gb151 ≠ gb152)); have n6_ := Aside0.mk ((by rw [hg]; exact Nat.ne_of_gt (blk_lt (g := gb151) (o := .cells #[.int .i64 a0_0, .int .i64 a0_1, .int .u32 a0_2, .int .u32 a0_3, .int .i64 a0_4, .int .i64 a0_5, .int .i64 a0_6, .slice A0_7 l0_7.length c0_7, .slice A0_8 l0_8.length c0_8] 27 (0, 0)) (by (with_reducible repeat (first | refine blk_drewN ?_ _ | refine blk_drew ?_ | refine blk_alloc ?_ _)); exact BK151.out)) : gb152 ≠ gb151)); clear BK151; clear HB; have BK151 := n0_; have HB := n1_; have BK152 := n2_; have GW152 := n3_; have GE152 := n4_; have NB151_152 := n5_; have NB152_151 := n6_; clear n0_ n1_ n2_ n3_ n4_ n5_ n6_; clear hb hbox hg; have hnb29 := NB151_152.out; have hnc29 := NB152_151.out; have hcz30_0 : w28.cell? ⟨gb151, 0, none⟩ = some (.int .i64 a0_0) := (blk_cell BK151.out 0).trans rfl; have hcz30_1 : w28.cell? ⟨gb151, 1, none⟩ = some (.int .i64 a0_1) := (blk_cell BK151.out 1).trans rfl; have hcz30_2 : w28.cell? ⟨gb151, 2, none⟩ = some (.int .u32 a0_2) := (blk_cell BK151.out 2).trans rfl; have hcz30_3 : w28.cell? ⟨gb151, 3, none⟩ = some (.int .u32 a0_3) := (blk_cell BK151.out 3).trans rfl; have hcz30_4 : w28.cell? ⟨gb151, 4, none⟩ = some (.int .i64 a0_4) := (blk_cell BK151.out 4).trans rfl; have hcz30_5 : w28.cell? ⟨gb151, 5, none⟩ = some (.int .i64 a0_5) := (blk_cell BK151.out 5).trans rfl; have hcz30_6 : w28.cell? ⟨gb151, 6, none⟩ = some (.int .i64 a0_6) := (blk_cell BK151.out 6).trans rfl; have hcz30_7 : w28.cell? ⟨gb151, 7, none⟩ = some (.slice A0_7 l0_7.length c0_7) := (blk_cell BK151.out 7).trans rfl; have hcz30_8 : w28.cell? ⟨gb151, 8, none⟩ = some (.slice A0_8 l0_8.length c0_8) := (blk_cell BK151.out 8).trans rfl; have hfz30_0 := blk_frozen BK151.out 0; have hfz30_1 := blk_frozen BK151.out 1; have hfz30_2 := blk_frozen BK151.out 2; have hfz30_3 := blk_frozen BK151.out 3; have hfz30_4 := blk_frozen BK151.out 4; have hfz30_5 := blk_frozen BK151.out 5; have hfz30_6 := blk_frozen BK151.out 6; have hfz30_7 := blk_frozen BK151.out 7; have hfz30_8 := blk_frozen BK151.out 8; have hcz31_0 : w28.cell? ⟨gb152, 0, none⟩ = some (.int .i64 a1_0) := (blk_cell BK152.out 0).trans rfl; have hcz31_1 : w28.cell? ⟨gb152, 1, none⟩ = some (.int .i64 a1_1) := (blk_cell BK152.out 1).trans rfl; have hcz31_2 : w28.cell? ⟨gb152, 2, none⟩ = some (.int .u32 a1_2) := (blk_cell BK152.out 2).trans rfl; have hcz31_3 : w28.cell? ⟨gb152, 3, none⟩ = some (.int .u32 a1_3) := (blk_cell BK152.out 3).trans rfl; have hcz31_4 : w28.cell? ⟨gb152, 4, none⟩ = some (.int .i64 a1_4) := (blk_cell BK152.out 4).trans rfl; have hcz31_5 : w28.cell? ⟨gb152, 5, none⟩ = some (.int .i64 a1_5) := (blk_cell BK152.out 5).trans rfl; have hcz31_6 : w28.cell? ⟨gb152, 6, none⟩ = some (.int .i64 a1_6) := (blk_cell BK152.out 6).trans rfl; have hcz31_7 : w28.cell? ⟨gb152, 7, none⟩ = some (.slice A1_7 l1_7.length c1_7) := (blk_cell BK152.out 7).trans rfl; have hcz31_8 : w28.cell? ⟨gb152, 8, none⟩ = some (.slice A1_8 l1_8.length c1_8) := (blk_cell BK152.out 8).trans rfl; have hfz31_0 := blk_frozen BK152.out 0; have hfz31_1 := blk_frozen BK152.out 1; have hfz31_2 := blk_frozen BK152.out 2; have hfz31_3 := blk_frozen BK152.out 3; have hfz31_4 := blk_frozen BK152.out 4; have hfz31_5 := blk_frozen BK152.out 5; have hfz31_6 := blk_frozen BK152.out 6; have hfz31_7 := blk_frozen BK152.out 7; have hfz31_8 := blk_frozen BK152.out 8))
                go_ret
                exact ⟨by first | rfl | (simp [errW_none, errW_some] <;> rfl) | (simp [*, errW_none, errW_some] <;> rfl), by repeat (first | (with_reducible first | exact HB.out | apply below_alloc | apply pw_below_drewN | apply below_drew1 | refine below_set ?_ GE151.out | refine below_set ?_ GE152.out) | exact HB.out)⟩
            · rw [if_neg c8] at H
              have c8b0 : (a0_5 == a1_5) = false := beq_eq_false_iff_ne.mpr c8
              have c8b1 : (a0_5 != a1_5) = true := bne_iff_ne.mpr c8
              obtain rfl := Option.some.inj H
              go_enter Try.func23, Try.ntmps23
              go_wp2_with (first | ((with_reducible refine gate_dst (N := 2) rfl ?_); refine box_event ?hg (N := 2) ?hd (cs := #[.int .i64 a0_0, .int .i64 a0_1, .int .u32 a0_2, .int .u32 a0_3, .int .i64 a0_4, .int .i64 a0_5, .int .i64 a0_6, .slice A0_7 l0_7.length c0_7, .slice A0_8 l0_8.length c0_8]) (t := 27) ?hr ?_; (case hd => rfl); (case hg => rfl); (case hr => first | (go_simp; done) | (go_simp; rfl)); intro gb151 hg w32 hbox hb; have n0_ := Aside0.mk (below_step (by repeat (first | (with_reducible first | exact HB.out | apply below_alloc | apply pw_below_drewN | apply below_drew1) | exact HB.out)) hb); have n1_ := Aside0.mk (hbox); have n2_ := Aside0.mk ((by rw [hg]; exact (below_size (by repeat (first | (with_reducible first | exact HB.out | apply below_alloc | apply pw_below_drewN | apply below_drew1) | exact HB.out))) : w.heap.size ≤ gb151)); have n3_ := Aside0.mk ((by rw [hg]; exact (below_size (by repeat (first | (with_reducible first | exact HB.out | apply below_alloc | apply pw_below_drewN | apply below_drew1) | exact HB.out))) : w.heap.size ≤ gb151)); clear HB; have HB := n0_; have BK151 := n1_; have GW151 := n2_; have GE151 := n3_; clear n0_ n1_ n2_ n3_; clear hb hbox hg) | ((with_reducible refine gate_dst (N := 3) rfl ?_); refine box_event ?hg (N := 3) ?hd (cs := #[.int .i64 a1_0, .int .i64 a1_1, .int .u32 a1_2, .int .u32 a1_3, .int .i64 a1_4, .int .i64 a1_5, .int .i64 a1_6, .slice A1_7 l1_7.length c1_7, .slice A1_8 l1_8.length c1_8]) (t := 27) ?hr ?_; (case hd => rfl); (case hg => rfl); (case hr => first | (go_simp; done) | (go_simp; rfl)); intro gb152 hg w33 hbox hb; have n0_ := Aside0.mk (blk_below (g := gb151) (o := .cells #[.int .i64 a0_0, .int .i64 a0_1, .int .u32 a0_2, .int .u32 a0_3, .int .i64 a0_4, .int .i64 a0_5, .int .i64 a0_6, .slice A0_7 l0_7.length c0_7, .slice A0_8 l0_8.length c0_8] 27 (0, 0)) (by (with_reducible repeat (first | refine blk_drewN ?_ _ | refine blk_drew ?_ | refine blk_alloc ?_ _)); exact BK151.out) hb); have n1_ := Aside0.mk (below_step (by repeat (first | (with_reducible first | exact HB.out | apply below_alloc | apply pw_below_drewN | apply below_drew1 | refine below_set ?_ GE151.out) | exact HB.out)) hb); have n2_ := Aside0.mk (hbox); have n3_ := Aside0.mk ((by rw [hg]; exact (below_size (by repeat (first | (with_reducible first | exact HB.out | apply below_alloc | apply pw_below_drewN | apply below_drew1 | refine below_set ?_ GE151.out) | exact HB.out))) : w.heap.size ≤ gb152)); have n4_ := Aside0.mk ((by rw [hg]; exact (below_size (by repeat (first | (with_reducible first | exact HB.out | apply below_alloc | apply pw_below_drewN | apply below_drew1 | refine below_set ?_ GE151.out) | exact HB.out))) : w.heap.size ≤ gb152)); have n5_ := Aside0.mk ((by rw [hg]; exact Nat.ne_of_lt (blk_lt (g := gb151) (o := .cells #[.int .i64 a0_0, .int .i64 a0_1, .int .u32 a0_2, .int .u32 a0_3, .int .i64 a0_4, .int .i64 a0_5, .int .i64 a0_6, .slice A0_7 l0_7.length c0_7, .slice A0_8 l0_8.length c0_8] 27 (0, 0)) (by (with_reducible repeat (first | refine blk_drewN ?_ _ | refine blk_drew ?_ | refine blk_alloc ?_ _)); exact BK151.out)) : gb151 ≠ gb152)); have n6_ := Aside0.mk ((by rw [hg]; exact Nat.ne_of_gt (blk_lt (g := gb151) (o := .cells #[.int .i64 a0_0, .int .i64 a0_1, .int .u32 a0_2, .int .u32 a0_3, .int .i64 a0_4, .int .i64 a0_5, .int .i64 a0_6, .slice A0_7 l0_7.length c0_7, .slice A0_8 l0_8.length c0_8] 27 (0, 0)) (by (with_reducible repeat (first | refine blk_drewN ?_ _ | refine blk_drew ?_ | refine blk_alloc ?_ _)); exact BK151.out)) : gb152 ≠ gb151)); clear BK151; clear HB; have BK151 := n0_; have HB := n1_; have BK152 := n2_; have GW152 := n3_; have GE152 := n4_; have NB151_152 := n5_; have NB152_151 := n6_; clear n0_ n1_ n2_ n3_ n4_ n5_ n6_; clear hb hbox hg; have hnb34 := NB151_152.out; have hnc34 := NB152_151.out; have hcz35_0 : w33.cell? ⟨gb151, 0, none⟩ = some (.int .i64 a0_0) := (blk_cell BK151.out 0).trans rfl; have hcz35_1 : w33.cell? ⟨gb151, 1, none⟩ = some (.int .i64 a0_1) := (blk_cell BK151.out 1).trans rfl; have hcz35_2 : w33.cell? ⟨gb151, 2, none⟩ = some (.int .u32 a0_2) := (blk_cell BK151.out 2).trans rfl; have hcz35_3 : w33.cell? ⟨gb151, 3, none⟩ = some (.int .u32 a0_3) := (blk_cell BK151.out 3).trans rfl; have hcz35_4 : w33.cell? ⟨gb151, 4, none⟩ = some (.int .i64 a0_4) := (blk_cell BK151.out 4).trans rfl; have hcz35_5 : w33.cell? ⟨gb151, 5, none⟩ = some (.int .i64 a0_5) := (blk_cell BK151.out 5).trans rfl; have hcz35_6 : w33.cell? ⟨gb151, 6, none⟩ = some (.int .i64 a0_6) := (blk_cell BK151.out 6).trans rfl; have hcz35_7 : w33.cell? ⟨gb151, 7, none⟩ = some (.slice A0_7 l0_7.length c0_7) := (blk_cell BK151.out 7).trans rfl; have hcz35_8 : w33.cell? ⟨gb151, 8, none⟩ = some (.slice A0_8 l0_8.length c0_8) := (blk_cell BK151.out 8).trans rfl; have hfz35_0 := blk_frozen BK151.out 0; have hfz35_1 := blk_frozen BK151.out 1; have hfz35_2 := blk_frozen BK151.out 2; have hfz35_3 := blk_frozen BK151.out 3; have hfz35_4 := blk_frozen BK151.out 4; have hfz35_5 := blk_frozen BK151.out 5; have hfz35_6 := blk_frozen BK151.out 6; have hfz35_7 := blk_frozen BK151.out 7; have hfz35_8 := blk_frozen BK151.out 8; have hcz36_0 : w33.cell? ⟨gb152, 0, none⟩ = some (.int .i64 a1_0) := (blk_cell BK152.out 0).trans rfl; have hcz36_1 : w33.cell? ⟨gb152, 1, none⟩ = some (.int .i64 a1_1) := (blk_cell BK152.out 1).trans rfl; have hcz36_2 : w33.cell? ⟨gb152, 2, none⟩ = some (.int .u32 a1_2) := (blk_cell BK152.out 2).trans rfl; have hcz36_3 : w33.cell? ⟨gb152, 3, none⟩ = some (.int .u32 a1_3) := (blk_cell BK152.out 3).trans rfl; have hcz36_4 : w33.cell? ⟨gb152, 4, none⟩ = some (.int .i64 a1_4) := (blk_cell BK152.out 4).trans rfl; have hcz36_5 : w33.cell? ⟨gb152, 5, none⟩ = some (.int .i64 a1_5) := (blk_cell BK152.out 5).trans rfl; have hcz36_6 : w33.cell? ⟨gb152, 6, none⟩ = some (.int .i64 a1_6) := (blk_cell BK152.out 6).trans rfl; have hcz36_7 : w33.cell? ⟨gb152, 7, none⟩ = some (.slice A1_7 l1_7.length c1_7) := (blk_cell BK152.out 7).trans rfl; have hcz36_8 : w33.cell? ⟨gb152, 8, none⟩ = some (.slice A1_8 l1_8.length c1_8) := (blk_cell BK152.out 8).trans rfl; have hfz36_0 := blk_frozen BK152.out 0; have hfz36_1 := blk_frozen BK152.out 1; have hfz36_2 := blk_frozen BK152.out 2; have hfz36_3 := blk_frozen BK152.out 3; have hfz36_4 := blk_frozen BK152.out 4; have hfz36_5 := blk_frozen BK152.out 5; have hfz36_6 := blk_frozen BK152.out 6; have hfz36_7 := blk_frozen BK152.out 7; have hfz36_8 := blk_frozen BK152.out 8))
              go_ret
              exact ⟨by first | rfl | (simp [errW_none, errW_some] <;> rfl) | (simp [*, errW_none, errW_some] <;> rfl), by repeat (first | (with_reducible first | exact HB.out | apply below_alloc | apply pw_below_drewN | apply below_drew1 | refine below_set ?_ GE151.out | refine below_set ?_ GE152.out) | exact HB.out)⟩
          · rw [if_neg c7] at H
            have c7b0 : (a0_4 == a1_4) = false := beq_eq_false_iff_ne.mpr c7
            have c7b1 : (a0_4 != a1_4) = true := bne_iff_ne.mpr c7
            obtain rfl := Option.some.inj H
            go_enter Try.func23, Try.ntmps23
            go_wp2_with (first | ((with_reducible refine gate_dst (N := 2) rfl ?_); refine box_event ?hg (N := 2) ?hd (cs := #[.int .i64 a0_0, .int .i64 a0_1, .int .u32 a0_2, .int .u32 a0_3, .int .i64 a0_4, .int .i64 a0_5, .int .i64 a0_6, .slice A0_7 l0_7.length c0_7, .slice A0_8 l0_8.length c0_8]) (t := 27) ?hr ?_; (case hd => rfl); (case hg => rfl); (case hr => first | (go_simp; done) | (go_simp; rfl)); intro gb151 hg w37 hbox hb; have n0_ := Aside0.mk (below_step (by repeat (first | (with_reducible first | exact HB.out | apply below_alloc | apply pw_below_drewN | apply below_drew1) | exact HB.out)) hb); have n1_ := Aside0.mk (hbox); have n2_ := Aside0.mk ((by rw [hg]; exact (below_size (by repeat (first | (with_reducible first | exact HB.out | apply below_alloc | apply pw_below_drewN | apply below_drew1) | exact HB.out))) : w.heap.size ≤ gb151)); have n3_ := Aside0.mk ((by rw [hg]; exact (below_size (by repeat (first | (with_reducible first | exact HB.out | apply below_alloc | apply pw_below_drewN | apply below_drew1) | exact HB.out))) : w.heap.size ≤ gb151)); clear HB; have HB := n0_; have BK151 := n1_; have GW151 := n2_; have GE151 := n3_; clear n0_ n1_ n2_ n3_; clear hb hbox hg) | ((with_reducible refine gate_dst (N := 3) rfl ?_); refine box_event ?hg (N := 3) ?hd (cs := #[.int .i64 a1_0, .int .i64 a1_1, .int .u32 a1_2, .int .u32 a1_3, .int .i64 a1_4, .int .i64 a1_5, .int .i64 a1_6, .slice A1_7 l1_7.length c1_7, .slice A1_8 l1_8.length c1_8]) (t := 27) ?hr ?_; (case hd => rfl); (case hg => rfl); (case hr => first | (go_simp; done) | (go_simp; rfl)); intro gb152 hg w38 hbox hb; have n0_ := Aside0.mk (blk_below (g := gb151) (o := .cells #[.int .i64 a0_0, .int .i64 a0_1, .int .u32 a0_2, .int .u32 a0_3, .int .i64 a0_4, .int .i64 a0_5, .int .i64 a0_6, .slice A0_7 l0_7.length c0_7, .slice A0_8 l0_8.length c0_8] 27 (0, 0)) (by (with_reducible repeat (first | refine blk_drewN ?_ _ | refine blk_drew ?_ | refine blk_alloc ?_ _)); exact BK151.out) hb); have n1_ := Aside0.mk (below_step (by repeat (first | (with_reducible first | exact HB.out | apply below_alloc | apply pw_below_drewN | apply below_drew1 | refine below_set ?_ GE151.out) | exact HB.out)) hb); have n2_ := Aside0.mk (hbox); have n3_ := Aside0.mk ((by rw [hg]; exact (below_size (by repeat (first | (with_reducible first | exact HB.out | apply below_alloc | apply pw_below_drewN | apply below_drew1 | refine below_set ?_ GE151.out) | exact HB.out))) : w.heap.size ≤ gb152)); have n4_ := Aside0.mk ((by rw [hg]; exact (below_size (by repeat (first | (with_reducible first | exact HB.out | apply below_alloc | apply pw_below_drewN | apply below_drew1 | refine below_set ?_ GE151.out) | exact HB.out))) : w.heap.size ≤ gb152)); have n5_ := Aside0.mk ((by rw [hg]; exact Nat.ne_of_lt (blk_lt (g := gb151) (o := .cells #[.int .i64 a0_0, .int .i64 a0_1, .int .u32 a0_2, .int .u32 a0_3, .int .i64 a0_4, .int .i64 a0_5, .int .i64 a0_6, .slice A0_7 l0_7.length c0_7, .slice A0_8 l0_8.length c0_8] 27 (0, 0)) (by (with_reducible repeat (first | refine blk_drewN ?_ _ | refine blk_drew ?_ | refine blk_alloc ?_ _)); exact BK151.out)) : gb151 ≠ gb152)); have n6_ := Aside0.mk ((by rw [hg]; exact Nat.ne_of_gt (blk_lt (g := gb151) (o := .cells #[.int .i64 a0_0, .int .i64 a0_1, .int .u32 a0_2, .int .u32 a0_3, .int .i64 a0_4, .int .i64 a0_5, .int .i64 a0_6, .slice A0_7 l0_7.length c0_7, .slice A0_8 l0_8.length c0_8] 27 (0, 0)) (by (with_reducible repeat (first | refine blk_drewN ?_ _ | refine blk_drew ?_ | refine blk_alloc ?_ _)); exact BK151.out)) : gb152 ≠ gb151)); clear BK151; clear HB; have BK151 := n0_; have HB := n1_; have BK152 := n2_; have GW152 := n3_; have GE152 := n4_; have NB151_152 := n5_; have NB152_151 := n6_; clear n0_ n1_ n2_ n3_ n4_ n5_ n6_; clear hb hbox hg; have hnb39 := NB151_152.out; have hnc39 := NB152_151.out; have hcz40_0 : w38.cell? ⟨gb151, 0, none⟩ = some (.int .i64 a0_0) := (blk_cell BK151.out 0).trans rfl; have hcz40_1 : w38.cell? ⟨gb151, 1, none⟩ = some (.int .i64 a0_1) := (blk_cell BK151.out 1).trans rfl; have hcz40_2 : w38.cell? ⟨gb151, 2, none⟩ = some (.int .u32 a0_2) := (blk_cell BK151.out 2).trans rfl; have hcz40_3 : w38.cell? ⟨gb151, 3, none⟩ = some (.int .u32 a0_3) := (blk_cell BK151.out 3).trans rfl; have hcz40_4 : w38.cell? ⟨gb151, 4, none⟩ = some (.int .i64 a0_4) := (blk_cell BK151.out 4).trans rfl; have hcz40_5 : w38.cell? ⟨gb151, 5, none⟩ = some (.int .i64 a0_5) := (blk_cell BK151.out 5).trans rfl; have hcz40_6 : w38.cell? ⟨gb151, 6, none⟩ = some (.int .i64 a0_6) := (blk_cell BK151.out 6).trans rfl; have hcz40_7 : w38.cell? ⟨gb151, 7, none⟩ = some (.slice A0_7 l0_7.length c0_7) := (blk_cell BK151.out 7).trans rfl; have hcz40_8 : w38.cell? ⟨gb151, 8, none⟩ = some (.slice A0_8 l0_8.length c0_8) := (blk_cell BK151.out 8).trans rfl; have hfz40_0 := blk_frozen BK151.out 0; have hfz40_1 := blk_frozen BK151.out 1; have hfz40_2 := blk_frozen BK151.out 2; have hfz40_3 := blk_frozen BK151.out 3; have hfz40_4 := blk_frozen BK151.out 4; have hfz40_5 := blk_frozen BK151.out 5; have hfz40_6 := blk_frozen BK151.out 6; have hfz40_7 := blk_frozen BK151.out 7; have hfz40_8 := blk_frozen BK151.out 8; have hcz41_0 : w38.cell? ⟨gb152, 0, none⟩ = some (.int .i64 a1_0) := (blk_cell BK152.out 0).trans rfl; have hcz41_1 : w38.cell? ⟨gb152, 1, none⟩ = some (.int .i64 a1_1) := (blk_cell BK152.out 1).trans rfl; have hcz41_2 : w38.cell? ⟨gb152, 2, none⟩ = some (.int .u32 a1_2) := (blk_cell BK152.out 2).trans rfl; have hcz41_3 : w38.cell? ⟨gb152, 3, none⟩ = some (.int .u32 a1_3) := (blk_cell BK152.out 3).trans rfl; have hcz41_4 : w38.cell? ⟨gb152, 4, none⟩ = some (.int .i64 a1_4) := (blk_cell BK152.out 4).trans rfl; have hcz41_5 : w38.cell? ⟨gb152, 5, none⟩ = some (.int .i64 a1_5) := (blk_cell BK152.out 5).trans rfl; have hcz41_6 : w38.cell? ⟨gb152, 6, none⟩ = some (.int .i64 a1_6) := (blk_cell BK152.out 6).trans rfl; have hcz41_7 : w38.cell? ⟨gb152, 7, none⟩ = some (.slice A1_7 l1_7.length c1_7) := (blk_cell BK152.out 7).trans rfl; have hcz41_8 : w38.cell? ⟨gb152, 8, none⟩ = some (.slice A1_8 l1_8.length c1_8) := (blk_cell BK152.out 8).trans rfl; have hfz41_0 := blk_frozen BK152.out 0; have hfz41_1 := blk_frozen BK152.out 1; have hfz41_2 := blk_frozen BK152.out 2; have hfz41_3 := blk_frozen BK152.out 3; have hfz41_4 := blk_frozen BK152.out 4; have hfz41_5 := blk_frozen BK152.out 5; have hfz41_6 := blk_frozen BK152.out 6; have hfz41_7 := blk_frozen BK152.out 7; have hfz41_8 := blk_frozen BK152.out 8))
            go_ret
            exact ⟨by first | rfl | (simp [errW_none, errW_some] <;> rfl) | (simp [*, errW_none, errW_some] <;> rfl), by repeat (first | (with_reducible first | exact HB.out | apply below_alloc | apply pw_below_drewN | apply below_drew1 | refine below_set ?_ GE151.out | refine below_set ?_ GE152.out) | exact HB.out)⟩
        · rw [if_neg c6] at H
          have c6b0 : (a0_3 == a1_3) = false := beq_eq_false_iff_ne.mpr c6
          have c6b1 : (a0_3 != a1_3) = true := bne_iff_ne.mpr c6
          obtain rfl := Option.some.inj H
          go_enter Try.func23, Try.ntmps23
          go_wp2_with (first | ((with_reducible refine gate_dst (N := 2) rfl ?_); refine box_event ?hg (N := 2) ?hd (cs := #[.int .i64 a0_0, .int .i64 a0_1, .int .u32 a0_2, .int .u32 a0_3, .int .i64 a0_4, .int .i64 a0_5, .int .i64 a0_6, .slice A0_7 l0_7.length c0_7, .slice A0_8 l0_8.length c0_8]) (t := 27) ?hr ?_; (case hd => rfl); (case hg => rfl); (case hr => first | (go_simp; done) | (go_simp; rfl)); intro gb151 hg w42 hbox hb; have n0_ := Aside0.mk (below_step (by repeat (first | (with_reducible first | exact HB.out | apply below_alloc | apply pw_below_drewN | apply below_drew1) | exact HB.out)) hb); have n1_ := Aside0.mk (hbox); have n2_ := Aside0.mk ((by rw [hg]; exact (below_size (by repeat (first | (with_reducible first | exact HB.out | apply below_alloc | apply pw_below_drewN | apply below_drew1) | exact HB.out))) : w.heap.size ≤ gb151)); have n3_ := Aside0.mk ((by rw [hg]; exact (below_size (by repeat (first | (with_reducible first | exact HB.out | apply below_alloc | apply pw_below_drewN | apply below_drew1) | exact HB.out))) : w.heap.size ≤ gb151)); clear HB; have HB := n0_; have BK151 := n1_; have GW151 := n2_; have GE151 := n3_; clear n0_ n1_ n2_ n3_; clear hb hbox hg) | ((with_reducible refine gate_dst (N := 3) rfl ?_); refine box_event ?hg (N := 3) ?hd (cs := #[.int .i64 a1_0, .int .i64 a1_1, .int .u32 a1_2, .int .u32 a1_3, .int .i64 a1_4, .int .i64 a1_5, .int .i64 a1_6, .slice A1_7 l1_7.length c1_7, .slice A1_8 l1_8.length c1_8]) (t := 27) ?hr ?_; (case hd => rfl); (case hg => rfl); (case hr => first | (go_simp; done) | (go_simp; rfl)); intro gb152 hg w43 hbox hb; have n0_ := Aside0.mk (blk_below (g := gb151) (o := .cells #[.int .i64 a0_0, .int .i64 a0_1, .int .u32 a0_2, .int .u32 a0_3, .int .i64 a0_4, .int .i64 a0_5, .int .i64 a0_6, .slice A0_7 l0_7.length c0_7, .slice A0_8 l0_8.length c0_8] 27 (0, 0)) (by (with_reducible repeat (first | refine blk_drewN ?_ _ | refine blk_drew ?_ | refine blk_alloc ?_ _)); exact BK151.out) hb); have n1_ := Aside0.mk (below_step (by repeat (first | (with_reducible first | exact HB.out | apply below_alloc | apply pw_below_drewN | apply below_drew1 | refine below_set ?_ GE151.out) | exact HB.out)) hb); have n2_ := Aside0.mk (hbox); have n3_ := Aside0.mk ((by rw [hg]; exact (below_size (by repeat (first | (with_reducible first | exact HB.out | apply below_alloc | apply pw_below_drewN | apply below_drew1 | refine below_set ?_ GE151.out) | exact HB.out))) : w.heap.size ≤ gb152)); have n4_ := Aside0.mk ((by rw [hg]; exact (below_size (by repeat (first | (with_reducible first | exact HB.out | apply below_alloc | apply pw_below_drewN | apply below_drew1 | refine below_set ?_ GE151.out) | exact HB.out))) : w.heap.size ≤ gb152)); have n5_ := Aside0.mk ((by rw [hg]; exact Nat.ne_of_lt (blk_lt (g := gb151) (o := .cells #[.int .i64 a0_0, .int .i64 a0_1, .int .u32 a0_2, .int .u32 a0_3, .int .i64 a0_4, .int .i64 a0_5, .int .i64 a0_6, .slice A0_7 l0_7.length c0_7, .slice A0_8 l0_8.length c0_8] 27 (0, 0)) (by (with_reducible repeat (first | refine blk_drewN ?_ _ | refine blk_drew ?_ | refine blk_alloc ?_ _)); exact BK151.out)) : gb151 ≠ gb152)); have n6_ := Aside0.mk ((by rw [hg]; exact Nat.ne_of_gt (blk_lt (g := gb151) (o := .cells #[.int .i64 a0_0, .int .i64 a0_1, .int .u32 a0_2, .int .u32 a0_3, .int .i64 a0_4, .int .i64 a0_5, .int .i64 a0_6, .slice A0_7 l0_7.length c0_7, .slice A0_8 l0_8.length c0_8] 27 (0, 0)) (by (with_reducible repeat (first | refine blk_drewN ?_ _ | refine blk_drew ?_ | refine blk_alloc ?_ _)); exact BK151.out)) : gb152 ≠ gb151)); clear BK151; clear HB; have BK151 := n0_; have HB := n1_; have BK152 := n2_; have GW152 := n3_; have GE152 := n4_; have NB151_152 := n5_; have NB152_151 := n6_; clear n0_ n1_ n2_ n3_ n4_ n5_ n6_; clear hb hbox hg; have hnb44 := NB151_152.out; have hnc44 := NB152_151.out; have hcz45_0 : w43.cell? ⟨gb151, 0, none⟩ = some (.int .i64 a0_0) := (blk_cell BK151.out 0).trans rfl; have hcz45_1 : w43.cell? ⟨gb151, 1, none⟩ = some (.int .i64 a0_1) := (blk_cell BK151.out 1).trans rfl; have hcz45_2 : w43.cell? ⟨gb151, 2, none⟩ = some (.int .u32 a0_2) := (blk_cell BK151.out 2).trans rfl; have hcz45_3 : w43.cell? ⟨gb151, 3, none⟩ = some (.int .u32 a0_3) := (blk_cell BK151.out 3).trans rfl; have hcz45_4 : w43.cell? ⟨gb151, 4, none⟩ = some (.int .i64 a0_4) := (blk_cell BK151.out 4).trans rfl; have hcz45_5 : w43.cell? ⟨gb151, 5, none⟩ = some (.int .i64 a0_5) := (blk_cell BK151.out 5).trans rfl; have hcz45_6 : w43.cell? ⟨gb151, 6, none⟩ = some (.int .i64 a0_6) := (blk_cell BK151.out 6).trans rfl; have hcz45_7 : w43.cell? ⟨gb151, 7, none⟩ = some (.slice A0_7 l0_7.length c0_7) := (blk_cell BK151.out 7).trans rfl; have hcz45_8 : w43.cell? ⟨gb151, 8, none⟩ = some (.slice A0_8 l0_8.length c0_8) := (blk_cell BK151.out 8).trans rfl; have hfz45_0 := blk_frozen BK151.out 0; have hfz45_1 := blk_frozen BK151.out 1; have hfz45_2 := blk_frozen BK151.out 2; have hfz45_3 := blk_frozen BK151.out 3; have hfz45_4 := blk_frozen BK151.out 4; have hfz45_5 := blk_frozen BK151.out 5; have hfz45_6 := blk_frozen BK151.out 6; have hfz45_7 := blk_frozen BK151.out 7; have hfz45_8 := blk_frozen BK151.out 8; have hcz46_0 : w43.cell? ⟨gb152, 0, none⟩ = some (.int .i64 a1_0) := (blk_cell BK152.out 0).trans rfl; have hcz46_1 : w43.cell? ⟨gb152, 1, none⟩ = some (.int .i64 a1_1) := (blk_cell BK152.out 1).trans rfl; have hcz46_2 : w43.cell? ⟨gb152, 2, none⟩ = some (.int .u32 a1_2) := (blk_cell BK152.out 2).trans rfl; have hcz46_3 : w43.cell? ⟨gb152, 3, none⟩ = some (.int .u32 a1_3) := (blk_cell BK152.out 3).trans rfl; have hcz46_4 : w43.cell? ⟨gb152, 4, none⟩ = some (.int .i64 a1_4) := (blk_cell BK152.out 4).trans rfl; have hcz46_5 : w43.cell? ⟨gb152, 5, none⟩ = some (.int .i64 a1_5) := (blk_cell BK152.out 5).trans rfl; have hcz46_6 : w43.cell? ⟨gb152, 6, none⟩ = some (.int .i64 a1_6) := (blk_cell BK152.out 6).trans rfl; have hcz46_7 : w43.cell? ⟨gb152, 7, none⟩ = some (.slice A1_7 l1_7.length c1_7) := (blk_cell BK152.out 7).trans rfl; have hcz46_8 : w43.cell? ⟨gb152, 8, none⟩ = some (.slice A1_8 l1_8.length c1_8) := (blk_cell BK152.out 8).trans rfl; have hfz46_0 := blk_frozen BK152.out 0; have hfz46_1 := blk_frozen BK152.out 1; have hfz46_2 := blk_frozen BK152.out 2; have hfz46_3 := blk_frozen BK152.out 3; have hfz46_4 := blk_frozen BK152.out 4; have hfz46_5 := blk_frozen BK152.out 5; have hfz46_6 := blk_frozen BK152.out 6; have hfz46_7 := blk_frozen BK152.out 7; have hfz46_8 := blk_frozen BK152.out 8))
          go_ret
          exact ⟨by first | rfl | (simp [errW_none, errW_some] <;> rfl) | (simp [*, errW_none, errW_some] <;> rfl), by repeat (first | (with_reducible first | exact HB.out | apply below_alloc | apply pw_below_drewN | apply below_drew1 | refine below_set ?_ GE151.out | refine below_set ?_ GE152.out) | exact HB.out)⟩
      · rw [if_neg c5] at H
        have c5b0 : (a0_2 == a1_2) = false := beq_eq_false_iff_ne.mpr c5
        have c5b1 : (a0_2 != a1_2) = true := bne_iff_ne.mpr c5
        obtain rfl := Option.some.inj H
        go_enter Try.func23, Try.ntmps23
        go_wp2_with (first | ((with_reducible refine gate_dst (N := 2) rfl ?_); refine box_event ?hg (N := 2) ?hd (cs := #[.int .i64 a0_0, .int .i64 a0_1, .int .u32 a0_2, .int .u32 a0_3, .int .i64 a0_4, .int .i64 a0_5, .int .i64 a0_6, .slice A0_7 l0_7.length c0_7, .slice A0_8 l0_8.length c0_8]) (t := 27) ?hr ?_; (case hd => rfl); (case hg => rfl); (case hr => first | (go_simp; done) | (go_simp; rfl)); intro gb151 hg w47 hbox hb; have n0_ := Aside0.mk (below_step (by repeat (first | (with_reducible first | exact HB.out | apply below_alloc | apply pw_below_drewN | apply below_drew1) | exact HB.out)) hb); have n1_ := Aside0.mk (hbox); have n2_ := Aside0.mk ((by rw [hg]; exact (below_size (by repeat (first | (with_reducible first | exact HB.out | apply below_alloc | apply pw_below_drewN | apply below_drew1) | exact HB.out))) : w.heap.size ≤ gb151)); have n3_ := Aside0.mk ((by rw [hg]; exact (below_size (by repeat (first | (with_reducible first | exact HB.out | apply below_alloc | apply pw_below_drewN | apply below_drew1) | exact HB.out))) : w.heap.size ≤ gb151)); clear HB; have HB := n0_; have BK151 := n1_; have GW151 := n2_; have GE151 := n3_; clear n0_ n1_ n2_ n3_; clear hb hbox hg) | ((with_reducible refine gate_dst (N := 3) rfl ?_); refine box_event ?hg (N := 3) ?hd (cs := #[.int .i64 a1_0, .int .i64 a1_1, .int .u32 a1_2, .int .u32 a1_3, .int .i64 a1_4, .int .i64 a1_5, .int .i64 a1_6, .slice A1_7 l1_7.length c1_7, .slice A1_8 l1_8.length c1_8]) (t := 27) ?hr ?_; (case hd => rfl); (case hg => rfl); (case hr => first | (go_simp; done) | (go_simp; rfl)); intro gb152 hg w48 hbox hb; have n0_ := Aside0.mk (blk_below (g := gb151) (o := .cells #[.int .i64 a0_0, .int .i64 a0_1, .int .u32 a0_2, .int .u32 a0_3, .int .i64 a0_4, .int .i64 a0_5, .int .i64 a0_6, .slice A0_7 l0_7.length c0_7, .slice A0_8 l0_8.length c0_8] 27 (0, 0)) (by (with_reducible repeat (first | refine blk_drewN ?_ _ | refine blk_drew ?_ | refine blk_alloc ?_ _)); exact BK151.out) hb); have n1_ := Aside0.mk (below_step (by repeat (first | (with_reducible first | exact HB.out | apply below_alloc | apply pw_below_drewN | apply below_drew1 | refine below_set ?_ GE151.out) | exact HB.out)) hb); have n2_ := Aside0.mk (hbox); have n3_ := Aside0.mk ((by rw [hg]; exact (below_size (by repeat (first | (with_reducible first | exact HB.out | apply below_alloc | apply pw_below_drewN | apply below_drew1 | refine below_set ?_ GE151.out) | exact HB.out))) : w.heap.size ≤ gb152)); have n4_ := Aside0.mk ((by rw [hg]; exact (below_size (by repeat (first | (with_reducible first | exact HB.out | apply below_alloc | apply pw_below_drewN | apply below_drew1 | refine below_set ?_ GE151.out) | exact HB.out))) : w.heap.size ≤ gb152)); have n5_ := Aside0.mk ((by rw [hg]; exact Nat.ne_of_lt (blk_lt (g := gb151) (o := .cells #[.int .i64 a0_0, .int .i64 a0_1, .int .u32 a0_2, .int .u32 a0_3, .int .i64 a0_4, .int .i64 a0_5, .int .i64 a0_6, .slice A0_7 l0_7.length c0_7, .slice A0_8 l0_8.length c0_8] 27 (0, 0)) (by (with_reducible repeat (first | refine blk_drewN ?_ _ | refine blk_drew ?_ | refine blk_alloc ?_ _)); exact BK151.out)) : gb151 ≠ gb152)); have n6_ := Aside0.mk ((by rw [hg]; exact Nat.ne_of_gt (blk_lt (g := gb151) (o := .cells #[.int .i64 a0_0, .int .i64 a0_1, .int .u32 a0_2, .int .u32 a0_3, .int .i64 a0_4, .int .i64 a0_5, .int .i64 a0_6, .slice A0_7 l0_7.length c0_7, .slice A0_8 l0_8.length c0_8] 27 (0, 0)) (by (with_reducible repeat (first | refine blk_drewN ?_ _ | refine blk_drew ?_ | refine blk_alloc ?_ _)); exact BK151.out)) : gb152 ≠ gb151)); clear BK151; clear HB; have BK151 := n0_; have HB := n1_; have BK152 := n2_; have GW152 := n3_; have GE152 := n4_; have NB151_152 := n5_; have NB152_151 := n6_; clear n0_ n1_ n2_ n3_ n4_ n5_ n6_; clear hb hbox hg; have hnb49 := NB151_152.out; have hnc49 := NB152_151.out; have hcz50_0 : w48.cell? ⟨gb151, 0, none⟩ = some (.int .i64 a0_0) := (blk_cell BK151.out 0).trans rfl; have hcz50_1 : w48.cell? ⟨gb151, 1, none⟩ = some (.int .i64 a0_1) := (blk_cell BK151.out 1).trans rfl; have hcz50_2 : w48.cell? ⟨gb151, 2, none⟩ = some (.int .u32 a0_2) := (blk_cell BK151.out 2).trans rfl; have hcz50_3 : w48.cell? ⟨gb151, 3, none⟩ = some (.int .u32 a0_3) := (blk_cell BK151.out 3).trans rfl; have hcz50_4 : w48.cell? ⟨gb151, 4, none⟩ = some (.int .i64 a0_4) := (blk_cell BK151.out 4).trans rfl; have hcz50_5 : w48.cell? ⟨gb151, 5, none⟩ = some (.int .i64 a0_5) := (blk_cell BK151.out 5).trans rfl; have hcz50_6 : w48.cell? ⟨gb151, 6, none⟩ = some (.int .i64 a0_6) := (blk_cell BK151.out 6).trans rfl; have hcz50_7 : w48.cell? ⟨gb151, 7, none⟩ = some (.slice A0_7 l0_7.length c0_7) := (blk_cell BK151.out 7).trans rfl; have hcz50_8 : w48.cell? ⟨gb151, 8, none⟩ = some (.slice A0_8 l0_8.length c0_8) := (blk_cell BK151.out 8).trans rfl; have hfz50_0 := blk_frozen BK151.out 0; have hfz50_1 := blk_frozen BK151.out 1; have hfz50_2 := blk_frozen BK151.out 2; have hfz50_3 := blk_frozen BK151.out 3; have hfz50_4 := blk_frozen BK151.out 4; have hfz50_5 := blk_frozen BK151.out 5; have hfz50_6 := blk_frozen BK151.out 6; have hfz50_7 := blk_frozen BK151.out 7; have hfz50_8 := blk_frozen BK151.out 8; have hcz51_0 : w48.cell? ⟨gb152, 0, none⟩ = some (.int .i64 a1_0) := (blk_cell BK152.out 0).trans rfl; have hcz51_1 : w48.cell? ⟨gb152, 1, none⟩ = some (.int .i64 a1_1) := (blk_cell BK152.out 1).trans rfl; have hcz51_2 : w48.cell? ⟨gb152, 2, none⟩ = some (.int .u32 a1_2) := (blk_cell BK152.out 2).trans rfl; have hcz51_3 : w48.cell? ⟨gb152, 3, none⟩ = some (.int .u32 a1_3) := (blk_cell BK152.out 3).trans rfl; have hcz51_4 : w48.cell? ⟨gb152, 4, none⟩ = some (.int .i64 a1_4) := (blk_cell BK152.out 4).trans rfl; have hcz51_5 : w48.cell? ⟨gb152, 5, none⟩ = some (.int .i64 a1_5) := (blk_cell BK152.out 5).trans rfl; have hcz51_6 : w48.cell? ⟨gb152, 6, none⟩ = some (.int .i64 a1_6) := (blk_cell BK152.out 6).trans rfl; have hcz51_7 : w48.cell? ⟨gb152, 7, none⟩ = some (.slice A1_7 l1_7.length c1_7) := (blk_cell BK152.out 7).trans rfl; have hcz51_8 : w48.cell? ⟨gb152, 8, none⟩ = some (.slice A1_8 l1_8.length c1_8) := (blk_cell BK152.out 8).trans rfl; have hfz51_0 := blk_frozen BK152.out 0; have hfz51_1 := blk_frozen BK152.out 1; have hfz51_2 := blk_frozen BK152.out 2; have hfz51_3 := blk_frozen BK152.out 3; have hfz51_4 := blk_frozen BK152.out 4; have hfz51_5 := blk_frozen BK152.out 5; have hfz51_6 := blk_frozen BK152.out 6; have hfz51_7 := blk_frozen BK152.out 7; have hfz51_8 := blk_frozen BK152.out 8))
        go_ret
        exact ⟨by first | rfl | (simp [errW_none, errW_some] <;> rfl) | (simp [*, errW_none, errW_some] <;> rfl), by repeat (first | (with_reducible first | exact HB.out | apply below_alloc | apply pw_below_drewN | apply below_drew1 | refine below_set ?_ GE151.out | refine below_set ?_ GE152.out) | exact HB.out)⟩
    · rw [if_neg c4] at H
      have c4b0 : (a0_1 == a1_1) = false := beq_eq_false_iff_ne.mpr c4
      have c4b1 : (a0_1 != a1_1) = true := bne_iff_ne.mpr c4
      obtain rfl := Option.some.inj H
      go_enter Try.func23, Try.ntmps23
      go_wp2_with (first | ((with_reducible refine gate_dst (N := 2) rfl ?_); refine box_event ?hg (N := 2) ?hd (cs := #[.int .i64 a0_0, .int .i64 a0_1, .int .u32 a0_2, .int .u32 a0_3, .int .i64 a0_4, .int .i64 a0_5, .int .i64 a0_6, .slice A0_7 l0_7.length c0_7, .slice A0_8 l0_8.length c0_8]) (t := 27) ?hr ?_; (case hd => rfl); (case hg => rfl); (case hr => first | (go_simp; done) | (go_simp; rfl)); intro gb151 hg w52 hbox hb; have n0_ := Aside0.mk (below_step (by repeat (first | (with_reducible first | exact HB.out | apply below_alloc | apply pw_below_drewN | apply below_drew1) | exact HB.out)) hb); have n1_ := Aside0.mk (hbox); have n2_ := Aside0.mk ((by rw [hg]; exact (below_size (by repeat (first | (with_reducible first | exact HB.out | apply below_alloc | apply pw_below_drewN | apply below_drew1) | exact HB.out))) : w.heap.size ≤ gb151)); have n3_ := Aside0.mk ((by rw [hg]; exact (below_size (by repeat (first | (with_reducible first | exact HB.out | apply below_alloc | apply pw_below_drewN | apply below_drew1) | exact HB.out))) : w.heap.size ≤ gb151)); clear HB; have HB := n0_; have BK151 := n1_; have GW151 := n2_; have GE151 := n3_; clear n0_ n1_ n2_ n3_; clear hb hbox hg) | ((with_reducible refine gate_dst (N := 3) rfl ?_); refine box_event ?hg (N := 3) ?hd (cs := #[.int .i64 a1_0, .int .i64 a1_1, .int .u32 a1_2, .int .u32 a1_3, .int .i64 a1_4, .int .i64 a1_5, .int .i64 a1_6, .slice A1_7 l1_7.length c1_7, .slice A1_8 l1_8.length c1_8]) (t := 27) ?hr ?_; (case hd => rfl); (case hg => rfl); (case hr => first | (go_simp; done) | (go_simp; rfl)); intro gb152 hg w53 hbox hb; have n0_ := Aside0.mk (blk_below (g := gb151) (o := .cells #[.int .i64 a0_0, .int .i64 a0_1, .int .u32 a0_2, .int .u32 a0_3, .int .i64 a0_4, .int .i64 a0_5, .int .i64 a0_6, .slice A0_7 l0_7.length c0_7, .slice A0_8 l0_8.length c0_8] 27 (0, 0)) (by (with_reducible repeat (first | refine blk_drewN ?_ _ | refine blk_drew ?_ | refine blk_alloc ?_ _)); exact BK151.out) hb); have n1_ := Aside0.mk (below_step (by repeat (first | (with_reducible first | exact HB.out | apply below_alloc | apply pw_below_drewN | apply below_drew1 | refine below_set ?_ GE151.out) | exact HB.out)) hb); have n2_ := Aside0.mk (hbox); have n3_ := Aside0.mk ((by rw [hg]; exact (below_size (by repeat (first | (with_reducible first | exact HB.out | apply below_alloc | apply pw_below_drewN | apply below_drew1 | refine below_set ?_ GE151.out) | exact HB.out))) : w.heap.size ≤ gb152)); have n4_ := Aside0.mk ((by rw [hg]; exact (below_size (by repeat (first | (with_reducible first | exact HB.out | apply below_alloc | apply pw_below_drewN | apply below_drew1 | refine below_set ?_ GE151.out) | exact HB.out))) : w.heap.size ≤ gb152)); have n5_ := Aside0.mk ((by rw [hg]; exact Nat.ne_of_lt (blk_lt (g := gb151) (o := .cells #[.int .i64 a0_0, .int .i64 a0_1, .int .u32 a0_2, .int .u32 a0_3, .int .i64 a0_4, .int .i64 a0_5, .int .i64 a0_6, .slice A0_7 l0_7.length c0_7, .slice A0_8 l0_8.length c0_8] 27 (0, 0)) (by (with_reducible repeat (first | refine blk_drewN ?_ _ | refine blk_drew ?_ | refine blk_alloc ?_ _)); exact BK151.out)) : gb151 ≠ gb152)); have n6_ := Aside0.mk ((by rw [hg]; exact Nat.ne_of_gt (blk_lt (g := gb151) (o := .cells #[.int .i64 a0_0, .int .i64 a0_1, .int .u32 a0_2, .int .u32 a0_3, .int .i64 a0_4, .int .i64 a0_5, .int .i64 a0_6, .slice A0_7 l0_7.length c0_7, .slice A0_8 l0_8.length c0_8] 27 (0, 0)) (by (with_reducible repeat (first | refine blk_drewN ?_ _ | refine blk_drew ?_ | refine blk_alloc ?_ _)); exact BK151.out)) : gb152 ≠ gb151)); clear BK151; clear HB; have BK151 := n0_; have HB := n1_; have BK152 := n2_; have GW152 := n3_; have GE152 := n4_; have NB151_152 := n5_; have NB152_151 := n6_; clear n0_ n1_ n2_ n3_ n4_ n5_ n6_; clear hb hbox hg; have hnb54 := NB151_152.out; have hnc54 := NB152_151.out; have hcz55_0 : w53.cell? ⟨gb151, 0, none⟩ = some (.int .i64 a0_0) := (blk_cell BK151.out 0).trans rfl; have hcz55_1 : w53.cell? ⟨gb151, 1, none⟩ = some (.int .i64 a0_1) := (blk_cell BK151.out 1).trans rfl; have hcz55_2 : w53.cell? ⟨gb151, 2, none⟩ = some (.int .u32 a0_2) := (blk_cell BK151.out 2).trans rfl; have hcz55_3 : w53.cell? ⟨gb151, 3, none⟩ = some (.int .u32 a0_3) := (blk_cell BK151.out 3).trans rfl; have hcz55_4 : w53.cell? ⟨gb151, 4, none⟩ = some (.int .i64 a0_4) := (blk_cell BK151.out 4).trans rfl; have hcz55_5 : w53.cell? ⟨gb151, 5, none⟩ = some (.int .i64 a0_5) := (blk_cell BK151.out 5).trans rfl; have hcz55_6 : w53.cell? ⟨gb151, 6, none⟩ = some (.int .i64 a0_6) := (blk_cell BK151.out 6).trans rfl; have hcz55_7 : w53.cell? ⟨gb151, 7, none⟩ = some (.slice A0_7 l0_7.length c0_7) := (blk_cell BK151.out 7).trans rfl; have hcz55_8 : w53.cell? ⟨gb151, 8, none⟩ = some (.slice A0_8 l0_8.length c0_8) := (blk_cell BK151.out 8).trans rfl; have hfz55_0 := blk_frozen BK151.out 0; have hfz55_1 := blk_frozen BK151.out 1; have hfz55_2 := blk_frozen BK151.out 2; have hfz55_3 := blk_frozen BK151.out 3; have hfz55_4 := blk_frozen BK151.out 4; have hfz55_5 := blk_frozen BK151.out 5; have hfz55_6 := blk_frozen BK151.out 6; have hfz55_7 := blk_frozen BK151.out 7; have hfz55_8 := blk_frozen BK151.out 8; have hcz56_0 : w53.cell? ⟨gb152, 0, none⟩ = some (.int .i64 a1_0) := (blk_cell BK152.out 0).trans rfl; have hcz56_1 : w53.cell? ⟨gb152, 1, none⟩ = some (.int .i64 a1_1) := (blk_cell BK152.out 1).trans rfl; have hcz56_2 : w53.cell? ⟨gb152, 2, none⟩ = some (.int .u32 a1_2) := (blk_cell BK152.out 2).trans rfl; have hcz56_3 : w53.cell? ⟨gb152, 3, none⟩ = some (.int .u32 a1_3) := (blk_cell BK152.out 3).trans rfl; have hcz56_4 : w53.cell? ⟨gb152, 4, none⟩ = some (.int .i64 a1_4) := (blk_cell BK152.out 4).trans rfl; have hcz56_5 : w53.cell? ⟨gb152, 5, none⟩ = some (.int .i64 a1_5) := (blk_cell BK152.out 5).trans rfl; have hcz56_6 : w53.cell? ⟨gb152, 6, none⟩ = some (.int .i64 a1_6) := (blk_cell BK152.out 6).trans rfl; have hcz56_7 : w53.cell? ⟨gb152, 7, none⟩ = some (.slice A1_7 l1_7.length c1_7) := (blk_cell BK152.out 7).trans rfl; have hcz56_8 : w53.cell? ⟨gb152, 8, none⟩ = some (.slice A1_8 l1_8.length c1_8) := (blk_cell BK152.out 8).trans rfl; have hfz56_0 := blk_frozen BK152.out 0; have hfz56_1 := blk_frozen BK152.out 1; have hfz56_2 := blk_frozen BK152.out 2; have hfz56_3 := blk_frozen BK152.out 3; have hfz56_4 := blk_frozen BK152.out 4; have hfz56_5 := blk_frozen BK152.out 5; have hfz56_6 := blk_frozen BK152.out 6; have hfz56_7 := blk_frozen BK152.out 7; have hfz56_8 := blk_frozen BK152.out 8))
      go_ret
      exact ⟨by first | rfl | (simp [errW_none, errW_some] <;> rfl) | (simp [*, errW_none, errW_some] <;> rfl), by repeat (first | (with_reducible first | exact HB.out | apply below_alloc | apply pw_below_drewN | apply below_drew1 | refine below_set ?_ GE151.out | refine below_set ?_ GE152.out) | exact HB.out)⟩
  · rw [if_neg c3] at H
    have c3b0 : (a0_0 == a1_0) = false := beq_eq_false_iff_ne.mpr c3
    have c3b1 : (a0_0 != a1_0) = true := bne_iff_ne.mpr c3
    obtain rfl := Option.some.inj H
    go_enter Try.func23, Try.ntmps23
    go_wp2_with (first | ((with_reducible refine gate_dst (N := 2) rfl ?_); refine box_event ?hg (N := 2) ?hd (cs := #[.int .i64 a0_0, .int .i64 a0_1, .int .u32 a0_2, .int .u32 a0_3, .int .i64 a0_4, .int .i64 a0_5, .int .i64 a0_6, .slice A0_7 l0_7.length c0_7, .slice A0_8 l0_8.length c0_8]) (t := 27) ?hr ?_; (case hd => rfl); (case hg => rfl); (case hr => first | (go_simp; done) | (go_simp; rfl)); intro gb151 hg w57 hbox hb; have n0_ := Aside0.mk (below_step (by repeat (first | (with_reducible first | exact HB.out | apply below_alloc | apply pw_below_drewN | apply below_drew1) | exact HB.out)) hb); have n1_ := Aside0.mk (hbox); have n2_ := Aside0.mk ((by rw [hg]; exact (below_size (by repeat (first | (with_reducible first | exact HB.out | apply below_alloc | apply pw_below_drewN | apply below_drew1) | exact HB.out))) : w.heap.size ≤ gb151)); have n3_ := Aside0.mk ((by rw [hg]; exact (below_size (by repeat (first | (with_reducible first | exact HB.out | apply below_alloc | apply pw_below_drewN | apply below_drew1) | exact HB.out))) : w.heap.size ≤ gb151)); clear HB; have HB := n0_; have BK151 := n1_; have GW151 := n2_; have GE151 := n3_; clear n0_ n1_ n2_ n3_; clear hb hbox hg) | ((with_reducible refine gate_dst (N := 3) rfl ?_); refine box_event ?hg (N := 3) ?hd (cs := #[.int .i64 a1_0, .int .i64 a1_1, .int .u32 a1_2, .int .u32 a1_3, .int .i64 a1_4, .int .i64 a1_5, .int .i64 a1_6, .slice A1_7 l1_7.length c1_7, .slice A1_8 l1_8.length c1_8]) (t := 27) ?hr ?_; (case hd => rfl); (case hg => rfl); (case hr => first | (go_simp; done) | (go_simp; rfl)); intro gb152 hg w58 hbox hb; have n0_ := Aside0.mk (blk_below (g := gb151) (o := .cells #[.int .i64 a0_0, .int .i64 a0_1, .int .u32 a0_2, .int .u32 a0_3, .int .i64 a0_4, .int .i64 a0_5, .int .i64 a0_6, .slice A0_7 l0_7.length c0_7, .slice A0_8 l0_8.length c0_8] 27 (0, 0)) (by (with_reducible repeat (first | refine blk_drewN ?_ _ | refine blk_drew ?_ | refine blk_alloc ?_ _)); exact BK151.out) hb); have n1_ := Aside0.mk (below_step (by repeat (first | (with_reducible first | exact HB.out | apply below_alloc | apply pw_below_drewN | apply below_drew1 | refine below_set ?_ GE151.out) | exact HB.out)) hb); have n2_ := Aside0.mk (hbox); have n3_ := Aside0.mk ((by rw [hg]; exact (below_size (by repeat (first | (with_reducible first | exact HB.out | apply below_alloc | apply pw_below_drewN | apply below_drew1 | refine below_set ?_ GE151.out) | exact HB.out))) : w.heap.size ≤ gb152)); have n4_ := Aside0.mk ((by rw [hg]; exact (below_size (by repeat (first | (with_reducible first | exact HB.out | apply below_alloc | apply pw_below_drewN | apply below_drew1 | refine below_set ?_ GE151.out) | exact HB.out))) : w.heap.size ≤ gb152)); have n5_ := Aside0.mk ((by rw [hg]; exact Nat.ne_of_lt (blk_lt (g := gb151) (o := .cells #[.int .i64 a0_0, .int .i64 a0_1, .int .u32 a0_2, .int .u32 a0_3, .int .i64 a0_4, .int .i64 a0_5, .int .i64 a0_6, .slice A0_7 l0_7.length c0_7, .slice A0_8 l0_8.length c0_8] 27 (0, 0)) (by (with_reducible repeat (first | refine blk_drewN ?_ _ | refine blk_drew ?_ | refine blk_alloc ?_ _)); exact BK151.out)) : gb151 ≠ gb152)); have n6_ := Aside0.mk ((by rw [hg]; exact Nat.ne_of_gt (blk_lt (g := gb151) (o := .cells #[.int .i64 a0_0, .int .i64 a0_1, .int .u32 a0_2, .int .u32 a0_3, .int .i64 a0_4, .int .i64 a0_5, .int .i64 a0_6, .slice A0_7 l0_7.length c0_7, .slice A0_8 l0_8.length c0_8] 27 (0, 0)) (by (with_reducible repeat (first | refine blk_drewN ?_ _ | refine blk_drew ?_ | refine blk_alloc ?_ _)); exact BK151.out)) : gb152 ≠ gb151)); clear BK151; clear HB; have BK151 := n0_; have HB := n1_; have BK152 := n2_; have GW152 := n3_; have GE152 := n4_; have NB151_152 := n5_; have NB152_151 := n6_; clear n0_ n1_ n2_ n3_ n4_ n5_ n6_; clear hb hbox hg; have hnb59 := NB151_152.out; have hnc59 := NB152_151.out; have hcz60_0 : w58.cell? ⟨gb151, 0, none⟩ = some (.int .i64 a0_0) := (blk_cell BK151.out 0).trans rfl; have hcz60_1 : w58.cell? ⟨gb151, 1, none⟩ = some (.int .i64 a0_1) := (blk_cell BK151.out 1).trans rfl; have hcz60_2 : w58.cell? ⟨gb151, 2, none⟩ = some (.int .u32 a0_2) := (blk_cell BK151.out 2).trans rfl; have hcz60_3 : w58.cell? ⟨gb151, 3, none⟩ = some (.int .u32 a0_3) := (blk_cell BK151.out 3).trans rfl; have hcz60_4 : w58.cell? ⟨gb151, 4, none⟩ = some (.int .i64 a0_4) := (blk_cell BK151.out 4).trans rfl; have hcz60_5 : w58.cell? ⟨gb151, 5, none⟩ = some (.int .i64 a0_5) := (blk_cell BK151.out 5).trans rfl; have hcz60_6 : w58.cell? ⟨gb151, 6, none⟩ = some (.int .i64 a0_6) := (blk_cell BK151.out 6).trans rfl; have hcz60_7 : w58.cell? ⟨gb151, 7, none⟩ = some (.slice A0_7 l0_7.length c0_7) := (blk_cell BK151.out 7).trans rfl; have hcz60_8 : w58.cell? ⟨gb151, 8, none⟩ = some (.slice A0_8 l0_8.length c0_8) := (blk_cell BK151.out 8).trans rfl; have hfz60_0 := blk_frozen BK151.out 0; have hfz60_1 := blk_frozen BK151.out 1; have hfz60_2 := blk_frozen BK151.out 2; have hfz60_3 := blk_frozen BK151.out 3; have hfz60_4 := blk_frozen BK151.out 4; have hfz60_5 := blk_frozen BK151.out 5; have hfz60_6 := blk_frozen BK151.out 6; have hfz60_7 := blk_frozen BK151.out 7; have hfz60_8 := blk_frozen BK151.out 8; have hcz61_0 : w58.cell? ⟨gb152, 0, none⟩ = some (.int .i64 a1_0) := (blk_cell BK152.out 0).trans rfl; have hcz61_1 : w58.cell? ⟨gb152, 1, none⟩ = some (.int .i64 a1_1) := (blk_cell BK152.out 1).trans rfl; have hcz61_2 : w58.cell? ⟨gb152, 2, none⟩ = some (.int .u32 a1_2) := (blk_cell BK152.out 2).trans rfl; have hcz61_3 : w58.cell? ⟨gb152, 3, none⟩ = some (.int .u32 a1_3) := (blk_cell BK152.out 3).trans rfl; have hcz61_4 : w58.cell? ⟨gb152, 4, none⟩ = some (.int .i64 a1_4) := (blk_cell BK152.out 4).trans rfl; have hcz61_5 : w58.cell? ⟨gb152, 5, none⟩ = some (.int .i64 a1_5) := (blk_cell BK152.out 5).trans rfl; have hcz61_6 : w58.cell? ⟨gb152, 6, none⟩ = some (.int .i64 a1_6) := (blk_cell BK152.out 6).trans rfl; have hcz61_7 : w58.cell? ⟨gb152, 7, none⟩ = some (.slice A1_7 l1_7.length c1_7) := (blk_cell BK152.out 7).trans rfl; have hcz61_8 : w58.cell? ⟨gb152, 8, none⟩ = some (.slice A1_8 l1_8.length c1_8) := (blk_cell BK152.out 8).trans rfl; have hfz61_0 := blk_frozen BK152.out 0; have hfz61_1 := blk_frozen BK152.out 1; have hfz61_2 := blk_frozen BK152.out 2; have hfz61_3 := blk_frozen BK152.out 3; have hfz61_4 := blk_frozen BK152.out 4; have hfz61_5 := blk_frozen BK152.out 5; have hfz61_6 := blk_frozen BK152.out 6; have hfz61_7 := blk_frozen BK152.out 7; have hfz61_8 := blk_frozen BK152.out 8))
    go_ret
    exact ⟨by first | rfl | (simp [errW_none, errW_some] <;> rfl) | (simp [*, errW_none, errW_some] <;> rfl), by repeat (first | (with_reducible first | exact HB.out | apply below_alloc | apply pw_below_drewN | apply below_drew1 | refine below_set ?_ GE151.out | refine below_set ?_ GE152.out) | exact HB.out)⟩

/-! ### tcp_isIn: function 47 -/
def tcp_isIn.f (a0 : Int) (a1 : Int) : Option (Bool) := if a0 ≥ 0 then (some (decide (a0 ≤ a1))) else (some false)
set_option maxHeartbeats 8000000 in
set_option maxRecDepth 100000 in
theorem tcp_isIn.calls (a0 : Int) (a1 : Int) (r : Bool) (w : World) (h : tcp_isIn.f a0 a1 = some r) :
    Calls Try.prog 47 #[.int .i64 a0, .int .i64 a1] w fun e w' => e = .returned (.bool r) ∧ Drawn0 w w' := by
  have H : (if a0 ≥ 0 then (some (decide (a0 ≤ a1))) else (some false)) = some r := h
  clear h
  by_cases c3 : a0 ≥ 0
  · rw [if_pos c3] at H
    have c3b0 : decide (0 ≤ a0) = true := decide_eq_true c3
    clear c3
    obtain rfl := Option.some.inj H
    go_enter Try.func47, Try.ntmps47
    go_wp2
    go_ret
    exact ⟨by first | rfl | (simp; done) | (simp [*]; done), by repeat (first | exact Drawn0.refl _ | apply Drawn0.step)⟩
  · rw [if_neg c3] at H
    have c3b0 : decide (0 ≤ a0) = false := decide_eq_false c3
    clear c3
    obtain rfl := Option.some.inj H
    go_enter Try.func47, Try.ntmps47
    go_wp2
    go_ret
    exact ⟨by first | rfl | (simp; done) | (simp [*]; done), by repeat (first | exact Drawn0.refl _ | apply Drawn0.step)⟩

-- NOT PRINTED: function 65 (slices_Grow_byte_byte)

/-! ### slices_Concat_byte_byte: function 62 -/
def slices_Concat_byte_byte.l0 : Nat → List Int → List (List Int) → Int → Int → Option (List Int)
  | 0, _, _, _, _ => none
  | k + 1, x6, x25, x26, x27 => if x27 < x26 then (if 0 ≤ x27 then (if x27 < (x25.length : Int) then (if x6.length + (rd_L2 x25 x27).length < 140737488355328 then (slices_Concat_byte_byte.l0 k (x6 ++ (rd_L2 x25 x27)) x25 x26 (wrap64 (x27 + 1))) else (none)) else (none)) else (none)) else (some x6)
def slices_Concat_byte_byte.f (k : Nat) (l0 : List (List Int)) : Option (List Int) := slices_Concat_byte_byte.l0 k ([] : List Int) l0 (l0.length : Int) 0
theorem slices_Concat_byte_byte.mono_l : ∀ k, (∀ y0 y1 y2 y3, LeO (slices_Concat_byte_byte.l0 k y0 y1 y2 y3) (slices_Concat_byte_byte.l0 (k + 1) y0 y1 y2 y3))
  | 0 => fun _ _ _ _ r h => by simp [slices_Concat_byte_byte.l0] at h
  | k + 1 => by
    have ih0 := slices_Concat_byte_byte.mono_l k
    · intro y0 y1 y2 y3
      unfold slices_Concat_byte_byte.l0
      repeat' first
      | (with_reducible exact ih0 _ _ _ _)
      | (with_reducible exact LeO.refl _)
      | (with_reducible exact LeO.none _)
      | (with_reducible refine LeO.ite ?_ ?_)
      | (with_reducible refine LeO.bind ?_ (fun _ => ?_))
      | exact ih0 _ _ _ _
      | exact LeO.none _
      | refine LeO.ite ?_ ?_
      | refine LeO.bind ?_ (fun _ => ?_)
theorem slices_Concat_byte_byte.mono : ∀ a0 k, LeO (slices_Concat_byte_byte.f k a0) (slices_Concat_byte_byte.f (k + 1) a0) := by
  intro a0 k
  have ih0 := slices_Concat_byte_byte.mono_l k
  unfold slices_Concat_byte_byte.f
  repeat' first
      | (with_reducible exact ih0 _ _ _ _)
      | (with_reducible exact LeO.refl _)
      | (with_reducible exact LeO.none _)
      | (with_reducible refine LeO.ite ?_ ?_)
      | (with_reducible refine LeO.bind ?_ (fun _ => ?_))
      | exact ih0 _ _ _ _
      | exact LeO.none _
      | refine LeO.ite ?_ ?_
      | refine LeO.bind ?_ (fun _ => ?_)
set_option maxHeartbeats 8000000 in
set_option maxRecDepth 100000 in
theorem slices_Grow_byte_byte.calls (n : Int) (w : World) (h0 : 0 ≤ n) (h1 : n < 140737488355328) :
    Calls Try.prog 65 #[.slice none 0 0, .int .i64 n] w fun e w' => ∃ v0_ : Value, e = .returned (v0_) ∧ Kd.R (Kd.int .u8) 5 w' w.heap.size (fun _ => True) v0_ ([] : List Int) ∧ Below w.heap.size w w' := by
  have HB := Aside0.mk (Below.refl w.heap.size w)
  have HR := Aside0.mk (Kd.R_nil (Kd.int .u8) 5 w w.heap.size (fun _ => True))
  have c1 : decide (n < 0) = false := decide_eq_false (by omega)
  have c2 : wrap64 (n - wrap64 (0 - 0)) = n := by rw [show wrap64 (0 - 0) = 0 from by unfold wrap64; omega, Int.sub_zero]; unfold wrap64; omega
  by_cases c3 : 0 < n
  · have c3b : decide (0 < n) = true := decide_eq_true c3
    go_enter Try.func65, Try.ntmps65
    go_wp2_with (first | ((first | (with_reducible refine gate_builtin (b := .append) (xs := #[.tmp 20, .tmp 21]) rfl ?_) | skip); at_builtin; refine Kd.R_append_zeros (Kd.int .u8) (w0 := w) w.heap.size rfl (.tmp 20) (.tmp 21) 25 3 5 (.int .u8 0) 1 rfl Try.underlying25 Try.underlying3 info5 rfl (by decide) (by omega) (.slice none 0 0) ([] : List Int) 0 n (fun _ => True) rfl rfl rfl ?aF ?aO h0 ?aB ?aS ?aL ?_; (case aF => exact (fun _ _ => trivial)); (case aO => exact Kd.R_nil _ _ _ _ _); (case aB => exact HB.out); (case aS => exact Nat.le_refl _); (case aL => (simp only [List.length_nil]; omega)); intro v1 w1 ho hb hg hat; obtain ⟨A1, k1, rfl⟩ := Kd.R_slice ho; clear hg hat; have HO := Aside0.mk ho; have HB1 := Aside0.mk hb; clear ho hb))
    go_ret
    exact ⟨_, rfl, Kd.R_take HO.out (Nat.zero_le _), HB1.out⟩
  · have c3b : decide (0 < n) = false := decide_eq_false c3
    go_enter Try.func65, Try.ntmps65
    go_wp2
    go_ret
    exact ⟨_, rfl, HR.out, HB.out⟩
set_option maxHeartbeats 8000000 in
set_option maxRecDepth 100000 in
theorem slices_Concat_byte_byte.calls (k : Nat) (A0 : Option Addr) (c0 : Nat) (l0 : List (List Int)) (r : List Int) (w : World) (hr0 : Kd.C (Kd.slice 5 (Kd.int .u8)) w A0 l0.length l0) (hc0 : l0.length ≤ c0) (h : slices_Concat_byte_byte.f k l0 = some r) :
    Calls Try.prog 62 #[.slice A0 l0.length c0] w fun e w' => ∃ v0_ : Value, e = .returned (v0_) ∧ Kd.R (Kd.int .u8) 5 w' w.heap.size (fun _ => True) v0_ r ∧ Below w.heap.size w w' := by
  have HR0 := Aside0.mk hr0
  have HC0 := Aside0.mk hc0
  clear hr0 hc0
  have HB := Aside0.mk (Below.refl w.heap.size w)
  have H : (slices_Concat_byte_byte.l0 k ([] : List Int) l0 (l0.length : Int) 0) = some r := h
  clear h
  have H' := Aside0.mk H
  clear H
  go_enter Try.func62, Try.ntmps62
  have H0 := H'
  go_wp2
  go_loopg [3, 11] k (fun kq v3 v11 w' => ∃ (z6 : List Int) (z11 : Int), v3 = .int .i64 (z6.length : Int) ∧ v11 = .int .i64 z11 ∧ z6.length < 140737488355328 ∧ Aside0 (slices_Concat_byte_byte.l0 kq z6 l0 (l0.length : Int) z11 = some r) ∧ Aside0 (kq ≤ k) ∧ w = w')
  case atStart => exact ⟨([] : List Int), 0, rfl, rfl, by decide, H', ⟨Nat.le_refl _⟩, rfl⟩
  case round =>
    clear H'
    obtain ⟨z6, z11, rfl, rfl, LMz, HA, HK1, rfl⟩ := hrel
    cases gk with
    | zero => exact absurd HA.out (by simp [slices_Concat_byte_byte.l0])
    | succ k1 =>
      have H := HA.out
      clear HA
      simp only [slices_Concat_byte_byte.l0] at H
      by_cases c2 : z11 < (l0.length : Int)
      · rw [if_pos c2] at H
        by_cases c3 : 0 ≤ z11
        · rw [if_pos c3, if_pos c2] at H
          by_cases c5 : z6.length + (rd_L2 l0 z11).length < 140737488355328
          · rw [if_pos c5] at H
            have H' := Aside0.mk H
            clear H
            obtain ⟨adz, Az, cz, ez, hxz, hlz, hiz⟩ := at_L2 HR0.out z11 c3 c2
            cases ez
            have c2b0 : decide (z11 < (l0.length : Int)) = true := decide_eq_true c2
            obtain ⟨y_, hy_⟩ : ∃ y_ : List Int, y_ = z6 ++ rd_L2 l0 z11 := ⟨_, rfl⟩
            have hly : y_.length = z6.length + (rd_L2 l0 z11).length := by rw [hy_, List.length_append]
            have e1 : wrap64 ((z6.length : Int) + ((rd_L2 l0 z11).length : Int)) = (y_.length : Int) := by rw [hly, Int.natCast_add]; unfold wrap64; omega
            have e2 : decide ((y_.length : Int) < 0) = false := decide_eq_false (by omega)
            have HY := Aside0.mk hy_
            have HLY := Aside0.mk hly
            clear hy_ hly
            replace c3 := eq_true c3
            replace c2 := eq_true c2
            go_wp2
            go_roundg k1
            case measure => have := HK1.out; omega
            case rel => exact ⟨y_, wrap64 (z11 + 1), (by have h_ := HLY.out; first | rfl | (simp [h_]; done) | (simp [*]; done)), (by first | rfl | (simp; done) | (simp [*]; done)), by have := HLY.out; omega, (by rw [HY.out]; exact H'), ⟨by have := HK1.out; omega⟩, rfl⟩
          · rw [if_neg c5] at H
            exact absurd H (by simp)
        · rw [if_neg c3] at H
          exact absurd H (by simp)
      · rw [if_neg c2] at H
        have c2b0 : decide (z11 < (l0.length : Int)) = false := decide_eq_false c2
        clear c2
        have hz6 := Option.some.inj H
        rw [hz6] at LMz ⊢
        clear hz6 H
        have H' := H0
        go_wp2_with (first | ((with_reducible refine gate_callee (f := 65) rfl ?_); refine goesL_ (some 24) rfl rfl Try.func65 (by kernel_rfl) rfl #[.slice none 0 0, .int .i64 (r.length : Int)] rfl (by (try simp only [List.map_toArray, List.map_cons, List.map_nil]); first | done | rfl) ?_; (with_reducible refine (slices_Grow_byte_byte.calls (r.length : Int) _ (Int.natCast_nonneg _) ?side1).mono ?_); (case side1 => omega); rintro e w1 ⟨vg, rfl, hog, hbg⟩; refine ⟨_, rfl, ?_⟩; have HOg := Aside0.mk hog; clear HB; have HB := Aside0.mk hbg; clear hog hbg))
        go_loopg [6, 27] k (fun kq v6 v27 w' => ∃ (x6_1 : List Int) (x27_1 : Int), v27 = .int .i64 x27_1 ∧ Aside0 (slices_Concat_byte_byte.l0 kq x6_1 l0 (l0.length : Int) x27_1 = some r) ∧ Aside0 (kq ≤ k) ∧ Aside0 (Kd.R (Kd.int .u8) 5 w' w.heap.size (fun _ => True) v6 x6_1) ∧ Aside0 (Below w.heap.size w w'))
        case atStart => exact ⟨(([] : List Int)), (0), (by first | rfl | (simp; done) | (simp [*]; done)), H', ⟨Nat.le_refl _⟩, ⟨HOg.out⟩, ⟨by repeat (first | (with_reducible first | exact HB.out | apply below_alloc | apply pw_below_drewN | apply below_drew1) | exact HB.out)⟩⟩
        case round =>
          clear H'
          obtain ⟨x6_1, x27_1, rfl, HA, HK1, HO_6, HB⟩ := hrel
          cases gk with
          | zero => exact absurd HA.out (by simp [slices_Concat_byte_byte.l0])
          | succ k1 =>
            have H := HA.out
            clear HA
            simp only [slices_Concat_byte_byte.l0] at H
            by_cases c2 : x27_1 < (l0.length : Int)
            · rw [if_pos c2] at H
              have c2b0 : decide (x27_1 < (l0.length : Int)) = true := decide_eq_true c2
              clear c2
              by_cases c3 : 0 ≤ x27_1
              · rw [if_pos c3] at H
                have c3b0 : decide (0 ≤ x27_1) = true := decide_eq_true c3
                clear c3
                by_cases c4 : x27_1 < (l0.length : Int)
                · rw [if_pos c4] at H
                  have c4b0 : decide (x27_1 < (l0.length : Int)) = true := decide_eq_true c4
                  clear c4
                  by_cases c5 : x6_1.length + (rd_L2 l0 x27_1).length < 140737488355328
                  · rw [if_pos c5] at H
                    have LMc5 := Aside0.mk c5
                    clear c5
                    obtain ⟨y154, hy154⟩ : ∃ y_ : List Int, y_ = (x6_1 ++ (rd_L2 l0 x27_1)) := ⟨_, rfl⟩
                    replace H : (slices_Concat_byte_byte.l0 k1 y154 l0 (l0.length : Int) (wrap64 (x27_1 + 1))) = some r := by first | (rw [hy154]; with_reducible exact H) | (have H2_ := (Option.bind_some _ _).symm.trans H; rw [hy154]; with_reducible exact H2_) | (have H2_ := (Option.bind_some _ _).symm.trans H; with_reducible exact H2_) | with_reducible exact H | (rw [hy154]; exact H) | exact H
                    have Ny154 := Aside0.mk hy154
                    clear hy154
                    have H' := Aside0.mk H
                    clear H
                    have p153 : 0 ≤ (x27_1 : Int) := of_decide_eq_true (by first | (with_reducible assumption) | assumption)
                    have q153 : x27_1 < (l0.length : Int) := of_decide_eq_true (by first | (with_reducible assumption) | assumption)
                    obtain ⟨ad153, A153_0, c153_0, e153, hx153_0, hl153_0, hi153_0⟩ := at_L2 HR0.out x27_1 p153 q153
                    cases e153
                    replace hx153_0 := (HB.out.cell (World.block_lt_of_cell? w _ hx153_0)).trans hx153_0
                    have HR153_0 := Aside0.mk hi153_0
                    have HC153_0 := Aside0.mk hl153_0
                    clear hi153_0 hl153_0
                    replace p153 := eq_true p153
                    replace q153 := eq_true q153
                    go_wp2_with (first | ((with_reducible refine gate_builtin (b := .append) (xs := #[.tmp 31, .tmp 32]) rfl ?_); at_builtin; refine Kd.R_append_rows (Kd.int .u8) (w0 := w) w.heap.size rfl (.tmp 31) (.tmp 32) 25 5 (.int .u8 0) 1 rfl Try.underlying25 info5 rfl (by decide) (by omega) u6 x6_1 (rd_L2 l0 x27_1) _ _ _ (fun _ => True) (fun _ => False) rfl rfl ?aO ?aR (fun _ _ h => h) (fun _ h => h.elim) ?aF ?aB ?aS ?aL ?_; (case aR => repeat (first | exact (Kd.C_below HR153_0.out HB.out) | (with_reducible refine Kd.C_alloc ?_ _) | (with_reducible refine Kd.C_drewN ?_ _) | (with_reducible refine Kd.C_drew ?_))); (case aB => exact (by repeat (first | (with_reducible first | exact HB.out | apply below_alloc | apply pw_below_drewN | apply below_drew1) | exact HB.out))); (case aF => exact (fun _ _ => trivial)); (case aO => exact (by (with_reducible repeat (first | apply Kd.R_alloc | apply Kd.R_drewN | apply Kd.R_drew)); exact HO_6.out)); (case aS => exact (below_size (by repeat (first | (with_reducible first | exact HB.out | apply below_alloc | apply pw_below_drewN | apply below_drew1) | exact HB.out)))); (case aL => have := LMc5.out; omega); intro v155 w6 ho hb hg hat; rw [← Ny154.out] at ho; have n0_ := Aside0.mk (hb); have n1_ := Aside0.mk (ho); clear HB; clear HO_6; have HB := n0_; have HO156 := n1_; clear n0_ n1_; clear ho hb hg hat))
                    go_roundg k1
                    case measure => have := HK1.out; omega
                    case rel => exact ⟨(y154), (wrap64 (x27_1 + 1)), (by first | rfl | (simp; done) | (simp [*]; done)), H', ⟨by have := HK1.out; omega⟩, ⟨by (with_reducible repeat (first | apply Kd.R_alloc | apply Kd.R_drewN | apply Kd.R_drew)); exact HO156.out⟩, ⟨by repeat (first | (with_reducible first | exact HB.out | apply below_alloc | apply pw_below_drewN | apply below_drew1) | exact HB.out)⟩⟩
                  · rw [if_neg c5] at H
                    exact absurd H (by simp)
                · rw [if_neg c4] at H
                  exact absurd H (by simp)
              · rw [if_neg c3] at H
                exact absurd H (by simp)
            · rw [if_neg c2] at H
              have c2b0 : decide (x27_1 < (l0.length : Int)) = false := decide_eq_false c2
              clear c2
              obtain rfl := Option.some.inj H
              go_wp2
              go_ret
              exact ⟨_, by first | rfl | (simp [errW_none, errW_some] <;> rfl) | (simp [*, errW_none, errW_some] <;> rfl), by (with_reducible repeat (first | apply Kd.R_alloc | apply Kd.R_drewN | apply Kd.R_drew)); exact HO_6.out, by repeat (first | (with_reducible first | exact HB.out | apply below_alloc | apply pw_below_drewN | apply below_drew1) | exact HB.out)⟩


/-! ### word_Join: function 48 -/
def word_Join.f (k : Nat) (l0 : List (List Int)) : Option (List Int) := (slices_Concat_byte_byte.f k l0).bind fun t157 => (some t157)
theorem word_Join.mono : ∀ a0 k, LeO (word_Join.f k a0) (word_Join.f (k + 1) a0) := by
  intro a0 k
  unfold word_Join.f
  repeat' first
      | (with_reducible exact slices_Concat_byte_byte.mono _ _)
      | (with_reducible exact LeO.refl _)
      | (with_reducible exact LeO.none _)
      | (with_reducible refine LeO.ite ?_ ?_)
      | (with_reducible refine LeO.bind ?_ (fun _ => ?_))
      | exact slices_Concat_byte_byte.mono _ _
      | exact LeO.none _
      | refine LeO.ite ?_ ?_
      | refine LeO.bind ?_ (fun _ => ?_)
set_option maxHeartbeats 8000000 in
set_option maxRecDepth 100000 in
theorem word_Join.calls (k : Nat) (A0 : Option Addr) (c0 : Nat) (l0 : List (List Int)) (r : List Int) (w : World) (hr0 : Kd.C (Kd.slice 5 (Kd.int .u8)) w A0 l0.length l0) (hc0 : l0.length ≤ c0) (h : word_Join.f k l0 = some r) :
    Calls Try.prog 48 #[.slice A0 l0.length c0] w fun e w' => ∃ v0_ : Value, e = .returned (v0_) ∧ Kd.R (Kd.int .u8) 5 w' w.heap.size (fun _ => True) v0_ r ∧ Below w.heap.size w w' := by
  have HR0 := Aside0.mk hr0
  have HC0 := Aside0.mk hc0
  clear hr0 hc0
  have HB := Aside0.mk (Below.refl w.heap.size w)
  have H : ((slices_Concat_byte_byte.f k l0).bind fun t157 => (some t157)) = some r := h
  clear h
  replace H := Option.bind_eq_some_iff.mp H
  obtain ⟨t157, A20, H⟩ := H
  replace H : (some t157) = some r := H
  have A2 := Aside0.mk A20
  clear A20
  obtain rfl := Option.some.inj H
  go_enter Try.func48, Try.ntmps48
  go_wp2_with (first | ((with_reducible refine gate_callee (f := 62) rfl ?_); refine goesL_ (some 4) rfl rfl Try.func62 (by kernel_rfl) rfl #[.slice A0 l0.length c0] rfl (by (try simp only [List.map_toArray, List.map_cons, List.map_nil]); first | done | rfl | (simp only [List.length_drop, List.length_take]; rfl)) ?_; (with_reducible refine (slices_Concat_byte_byte.calls k _ _ l0 t157 _ ?side1 ?side2 A2.out).mono ?_); (case side1 => repeat (first | exact HR0.out | (with_reducible refine Kd.C_alloc ?_ _) | (with_reducible refine Kd.C_drewN ?_ _) | (with_reducible refine Kd.C_drew ?_))); (case side2 => exact HC0.out); rintro e w3 ⟨v158, rfl, ho0, hb⟩; refine ⟨_, rfl, ?_⟩; have n0_ := Aside0.mk (Kd.R_lower ho0 (below_size (by repeat (first | (with_reducible first | exact HB.out | apply below_alloc | apply pw_below_drewN | apply below_drew1) | exact HB.out)))); have n1_ := Aside0.mk (below_step (by repeat (first | (with_reducible first | exact HB.out | apply below_alloc | apply pw_below_drewN | apply below_drew1) | exact HB.out)) hb); clear HB; have HO159 := n0_; have HB := n1_; clear n0_ n1_; (try clear hb); (try clear hb2); (try clear hk); (try clear hi); (try clear ho0)))
  go_ret
  exact ⟨_, by first | rfl | (simp [errW_none, errW_some] <;> rfl) | (simp [*, errW_none, errW_some] <;> rfl), by (with_reducible repeat (first | apply Kd.R_alloc | apply Kd.R_drewN | apply Kd.R_drew)); exact HO159.out, by repeat (first | (with_reducible first | exact HB.out | apply below_alloc | apply pw_below_drewN | apply below_drew1) | exact HB.out)⟩

end Go.Proofs.Ytbenimfjhcbplaa.QTcpBack
