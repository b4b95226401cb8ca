-- written by myprint.py, a program of this session's over the kit's printer
import Derived.Test.YtkdibloahkhgoaaQReplyMayx0
import Derived.Test.YtkdibloahkhgoaaQReplyMayx1
namespace Go.Proofs.Ytkdibloahkhgoaa.QReplyMay
open Go.RowKit Go.Proofs.YtkdibloahkhgoaaW.PrintWords Go.Proofs.YtkdibloahkhgoaaW.PrintLast Go.Proofs.YtkdibloahkhgoaaW.PrintMore
attribute [local go_sem] max2_int min2_int max_two min_two max_three min_three max_four min_four   -- for this text's walks alone
set_option linter.unusedVariables false
set_option linter.unusedSimpArgs false

/-! ### castellanlaw19_ReplyMay: function 3 -/
def castellanlaw19_ReplyMay.j0 : Nat → Int → Int → Int → Int → Bool → Option (Bool)
  | 0, _, _, _, _, _ => none
  | k + 1, x0, x1, x2, x3, x17 => if x17 = true then ((castellanlaw19_known.f).bind fun t109 => (some t109)) else (if x3 = 3 then (if x2 = 2 then ((reply_May.f 0 0 false false 0 0 x1 x0 0 ([] : List Int) ([] : List Int) x2 0 0 0 x3 0 none).bind fun t111 => (if (t111 == (!true)) = true then ((castellanlaw19_known.f).bind fun t112 => (some t112)) else (some false))) else (if (x0 / 16777216) = 0 then ((reply_May.f 0 0 false false 0 0 x1 x0 0 ([] : List Int) ([] : List Int) x2 0 0 0 x3 0 none).bind fun t113 => (if (t113 == (!true)) = true then ((castellanlaw19_known.f).bind fun t114 => (some t114)) else (some false))) else ((castellanref3_Cast.f x0).bind fun t115 => (if t115 = true then ((reply_May.f 0 0 false false 0 0 x1 x0 0 ([] : List Int) ([] : List Int) x2 0 0 0 x3 0 none).bind fun t116 => (if (t116 == (!true)) = true then ((castellanlaw19_known.f).bind fun t117 => (some t117)) else (some false))) else (if x1 = 1 then (if x2 = 1 then ((reply_May.f 0 0 false false 0 0 x1 x0 0 ([] : List Int) ([] : List Int) x2 0 0 0 x3 0 none).bind fun t118 => (if (t118 == (!true)) = true then ((castellanlaw19_known.f).bind fun t119 => (some t119)) else (some false))) else ((reply_May.f 0 0 false false 0 0 x1 x0 0 ([] : List Int) ([] : List Int) x2 0 0 0 x3 0 none).bind fun t120 => (if (t120 == (!true)) = true then ((castellanlaw19_known.f).bind fun t121 => (some t121)) else (some false)))) else ((reply_May.f 0 0 false false 0 0 x1 x0 0 ([] : List Int) ([] : List Int) x2 0 0 0 x3 0 none).bind fun t122 => (if (t122 == (!false)) = true then ((castellanlaw19_known.f).bind fun t123 => (some t123)) else (some false)))))))) else (if x3 = 4 then (if x2 = 2 then ((reply_May.f 0 0 false false 0 0 x1 x0 0 ([] : List Int) ([] : List Int) x2 0 0 0 x3 0 none).bind fun t124 => (if (t124 == (!true)) = true then ((castellanlaw19_known.f).bind fun t125 => (some t125)) else (some false))) else (if (x0 / 16777216) = 0 then ((reply_May.f 0 0 false false 0 0 x1 x0 0 ([] : List Int) ([] : List Int) x2 0 0 0 x3 0 none).bind fun t126 => (if (t126 == (!true)) = true then ((castellanlaw19_known.f).bind fun t127 => (some t127)) else (some false))) else ((castellanref3_Cast.f x0).bind fun t128 => (if t128 = true then ((reply_May.f 0 0 false false 0 0 x1 x0 0 ([] : List Int) ([] : List Int) x2 0 0 0 x3 0 none).bind fun t129 => (if (t129 == (!true)) = true then ((castellanlaw19_known.f).bind fun t130 => (some t130)) else (some false))) else (if x1 = 1 then (if x2 = 1 then ((reply_May.f 0 0 false false 0 0 x1 x0 0 ([] : List Int) ([] : List Int) x2 0 0 0 x3 0 none).bind fun t131 => (if (t131 == (!true)) = true then ((castellanlaw19_known.f).bind fun t132 => (some t132)) else (some false))) else ((reply_May.f 0 0 false false 0 0 x1 x0 0 ([] : List Int) ([] : List Int) x2 0 0 0 x3 0 none).bind fun t133 => (if (t133 == (!true)) = true then ((castellanlaw19_known.f).bind fun t134 => (some t134)) else (some false)))) else ((reply_May.f 0 0 false false 0 0 x1 x0 0 ([] : List Int) ([] : List Int) x2 0 0 0 x3 0 none).bind fun t135 => (if (t135 == (!false)) = true then ((castellanlaw19_known.f).bind fun t136 => (some t136)) else (some false)))))))) else (if x3 = 5 then (if x2 = 2 then ((reply_May.f 0 0 false false 0 0 x1 x0 0 ([] : List Int) ([] : List Int) x2 0 0 0 x3 0 none).bind fun t137 => (if (t137 == (!true)) = true then ((castellanlaw19_known.f).bind fun t138 => (some t138)) else (some false))) else (if (x0 / 16777216) = 0 then ((reply_May.f 0 0 false false 0 0 x1 x0 0 ([] : List Int) ([] : List Int) x2 0 0 0 x3 0 none).bind fun t139 => (if (t139 == (!true)) = true then ((castellanlaw19_known.f).bind fun t140 => (some t140)) else (some false))) else ((castellanref3_Cast.f x0).bind fun t141 => (if t141 = true then ((reply_May.f 0 0 false false 0 0 x1 x0 0 ([] : List Int) ([] : List Int) x2 0 0 0 x3 0 none).bind fun t142 => (if (t142 == (!true)) = true then ((castellanlaw19_known.f).bind fun t143 => (some t143)) else (some false))) else (if x1 = 1 then (if x2 = 1 then ((reply_May.f 0 0 false false 0 0 x1 x0 0 ([] : List Int) ([] : List Int) x2 0 0 0 x3 0 none).bind fun t144 => (if (t144 == (!true)) = true then ((castellanlaw19_known.f).bind fun t145 => (some t145)) else (some false))) else ((reply_May.f 0 0 false false 0 0 x1 x0 0 ([] : List Int) ([] : List Int) x2 0 0 0 x3 0 none).bind fun t146 => (if (t146 == (!true)) = true then ((castellanlaw19_known.f).bind fun t147 => (some t147)) else (some false)))) else ((reply_May.f 0 0 false false 0 0 x1 x0 0 ([] : List Int) ([] : List Int) x2 0 0 0 x3 0 none).bind fun t148 => (if (t148 == (!false)) = true then ((castellanlaw19_known.f).bind fun t149 => (some t149)) else (some false)))))))) else (if x3 = 11 then (if x2 = 2 then ((reply_May.f 0 0 false false 0 0 x1 x0 0 ([] : List Int) ([] : List Int) x2 0 0 0 x3 0 none).bind fun t150 => (if (t150 == (!true)) = true then ((castellanlaw19_known.f).bind fun t151 => (some t151)) else (some false))) else (if (x0 / 16777216) = 0 then ((reply_May.f 0 0 false false 0 0 x1 x0 0 ([] : List Int) ([] : List Int) x2 0 0 0 x3 0 none).bind fun t152 => (if (t152 == (!true)) = true then ((castellanlaw19_known.f).bind fun t153 => (some t153)) else (some false))) else ((castellanref3_Cast.f x0).bind fun t154 => (if t154 = true then ((reply_May.f 0 0 false false 0 0 x1 x0 0 ([] : List Int) ([] : List Int) x2 0 0 0 x3 0 none).bind fun t155 => (if (t155 == (!true)) = true then ((castellanlaw19_known.f).bind fun t156 => (some t156)) else (some false))) else (if x1 = 1 then (if x2 = 1 then ((reply_May.f 0 0 false false 0 0 x1 x0 0 ([] : List Int) ([] : List Int) x2 0 0 0 x3 0 none).bind fun t157 => (if (t157 == (!true)) = true then ((castellanlaw19_known.f).bind fun t158 => (some t158)) else (some false))) else ((reply_May.f 0 0 false false 0 0 x1 x0 0 ([] : List Int) ([] : List Int) x2 0 0 0 x3 0 none).bind fun t159 => (if (t159 == (!true)) = true then ((castellanlaw19_known.f).bind fun t160 => (some t160)) else (some false)))) else ((reply_May.f 0 0 false false 0 0 x1 x0 0 ([] : List Int) ([] : List Int) x2 0 0 0 x3 0 none).bind fun t161 => (if (t161 == (!false)) = true then ((castellanlaw19_known.f).bind fun t162 => (some t162)) else (some false)))))))) else (if x2 = 2 then ((reply_May.f 0 0 false false 0 0 x1 x0 0 ([] : List Int) ([] : List Int) x2 0 0 0 x3 0 none).bind fun t163 => (if (t163 == (!true)) = true then ((castellanlaw19_known.f).bind fun t164 => (some t164)) else (some false))) else (if (x0 / 16777216) = 0 then ((reply_May.f 0 0 false false 0 0 x1 x0 0 ([] : List Int) ([] : List Int) x2 0 0 0 x3 0 none).bind fun t165 => (if (t165 == (!true)) = true then ((castellanlaw19_known.f).bind fun t166 => (some t166)) else (some false))) else ((castellanref3_Cast.f x0).bind fun t167 => (if t167 = true then ((reply_May.f 0 0 false false 0 0 x1 x0 0 ([] : List Int) ([] : List Int) x2 0 0 0 x3 0 none).bind fun t168 => (if (t168 == (!true)) = true then ((castellanlaw19_known.f).bind fun t169 => (some t169)) else (some false))) else (if x1 = 1 then (if x2 = 1 then ((reply_May.f 0 0 false false 0 0 x1 x0 0 ([] : List Int) ([] : List Int) x2 0 0 0 x3 0 none).bind fun t170 => (if (t170 == (!true)) = true then ((castellanlaw19_known.f).bind fun t171 => (some t171)) else (some false))) else ((reply_May.f 0 0 false false 0 0 x1 x0 0 ([] : List Int) ([] : List Int) x2 0 0 0 x3 0 none).bind fun t172 => (if (t172 == (!(x3 == 12))) = true then ((castellanlaw19_known.f).bind fun t173 => (some t173)) else (some false)))) else ((reply_May.f 0 0 false false 0 0 x1 x0 0 ([] : List Int) ([] : List Int) x2 0 0 0 x3 0 none).bind fun t174 => (if (t174 == (!false)) = true then ((castellanlaw19_known.f).bind fun t175 => (some t175)) else (some false))))))))))))
def castellanlaw19_ReplyMay.f (k : Nat) (a0 : Int) (a1 : Int) (a2 : Int) (a3 : Int) : Option (Bool) := if a2 < 0 then (castellanlaw19_ReplyMay.j0 k a0 a1 a2 a3 true) else (castellanlaw19_ReplyMay.j0 k a0 a1 a2 a3 (decide (a2 > 2)))
theorem castellanlaw19_ReplyMay.mono_l : ∀ k, (∀ y0 y1 y2 y3 y4, LeO (castellanlaw19_ReplyMay.j0 k y0 y1 y2 y3 y4) (castellanlaw19_ReplyMay.j0 (k + 1) y0 y1 y2 y3 y4))
  | 0 => fun _ _ _ _ _ r h => by simp [castellanlaw19_ReplyMay.j0] at h
  | k + 1 => by
    have ih0 := castellanlaw19_ReplyMay.mono_l k
    · intro y0 y1 y2 y3 y4
      unfold castellanlaw19_ReplyMay.j0
      repeat' first
      | (with_reducible exact ih0 _ _ _ _ _)
      | (with_reducible exact LeO.refl _)
      | (with_reducible exact LeO.none _)
      | (with_reducible refine LeO.ite ?_ ?_)
      | (with_reducible refine LeO.bind ?_ (fun _ => ?_))
      | exact ih0 _ _ _ _ _
      | exact LeO.none _
      | refine LeO.ite ?_ ?_
      | refine LeO.bind ?_ (fun _ => ?_)
theorem castellanlaw19_ReplyMay.mono : ∀ a0 a1 a2 a3 k, LeO (castellanlaw19_ReplyMay.f k a0 a1 a2 a3) (castellanlaw19_ReplyMay.f (k + 1) a0 a1 a2 a3) := by
  intro a0 a1 a2 a3 k
  have ih0 := castellanlaw19_ReplyMay.mono_l k
  unfold castellanlaw19_ReplyMay.f
  repeat' first
      | (with_reducible exact ih0 _ _ _ _ _)
      | (with_reducible exact LeO.refl _)
      | (with_reducible exact LeO.none _)
      | (with_reducible refine LeO.ite ?_ ?_)
      | (with_reducible refine LeO.bind ?_ (fun _ => ?_))
      | exact ih0 _ _ _ _ _
      | exact LeO.none _
      | refine LeO.ite ?_ ?_
      | refine LeO.bind ?_ (fun _ => ?_)
set_option maxHeartbeats 8000000 in
set_option maxRecDepth 100000 in
theorem castellanlaw19_ReplyMay.calls (k : Nat) (a0 : Int) (a1 : Int) (a2 : Int) (a3 : Int) (r : Bool) (w : World) (hrt : r = true) (h : castellanlaw19_ReplyMay.f k a0 a1 a2 a3 = some r) :
    Calls Try.prog 3 #[.int .u32 a0, .int .i64 a1, .int .i64 a2, .int .i64 a3] w fun e w' => e = .returned (.bool r) ∧ Below w.heap.size w w' := by
  have hu26 := Try.underlying26
  have hu29 := Try.underlying29
  have HRT := Aside0.mk hrt
  clear hrt
  have HB := Aside0.mk (Below.refl w.heap.size w)
  have H : (if a2 < 0 then (castellanlaw19_ReplyMay.j0 k a0 a1 a2 a3 true) else (castellanlaw19_ReplyMay.j0 k a0 a1 a2 a3 (decide (a2 > 2)))) = some r := h
  clear h
  have HC5 := Aside0.mk H
  clear H
  go_enter Try.func3, Try.ntmps3
  go_upto_region 1 with (fail)
  go_cut [17] (fun v17 wc => ∃ (kq : Nat) (x17_4 : Bool), v17 = .bool x17_4 ∧ Aside0 (castellanlaw19_ReplyMay.j0 kq a0 a1 a2 a3 x17_4 = some r) ∧ Aside0 (kq ≤ k) ∧ Aside0 (Below w.heap.size w wc))
  case first =>
    have H := HC5.out
    clear HC5
    by_cases c6 : a2 < 0
    · rw [if_pos c6] at H
      have c6b0 : decide (a2 < 0) = true := decide_eq_true c6
      clear c6
      (first | rw [c6b0] | (simp only [i64_w, i32_w]; rw [c6b0]) | skip)
      have H' := Aside0.mk H
      clear H
      go_wp2
      go_meet
      case rel => exact ⟨_, (true), (by first | rfl | (simp; done) | (simp [*]; done)), H', ⟨by first | omega | exact Nat.le_refl _⟩, ⟨by repeat (first | (with_reducible first | exact HB.out | apply below_alloc | apply pw_below_drewN | apply below_drew1) | exact HB.out)⟩⟩
    · rw [if_neg c6] at H
      have c6b0 : decide (a2 < 0) = false := decide_eq_false c6
      clear c6
      (first | rw [c6b0] | (simp only [i64_w, i32_w]; rw [c6b0]) | skip)
      have H' := Aside0.mk H
      clear H
      go_wp2
      go_meet
      case rel => exact ⟨_, (decide (a2 > 2)), (by first | rfl | (simp; done) | (simp [*]; done)), H', ⟨by first | omega | exact Nat.le_refl _⟩, ⟨by repeat (first | (with_reducible first | exact HB.out | apply below_alloc | apply pw_below_drewN | apply below_drew1) | exact HB.out)⟩⟩
  case rest =>
    clear HC5
    try clear p2
    try clear c3
    try clear c6
    try clear c6b0
    obtain ⟨kq, x17_4, rfl, HA, HJ4, HB⟩ := hcut
    cases kq with
    | zero => exact absurd HA.out (by simp [castellanlaw19_ReplyMay.j0])
    | succ kj4 =>
      have H := HA.out
      clear HA
      simp only [castellanlaw19_ReplyMay.j0] at H
      by_cases c7 : x17_4 = true
      · subst c7
        have H1 : ((castellanlaw19_known.f).bind fun t109 => (some t109)) = some r := by rw [if_pos rfl] at H; exact H
        clear H
        have H := H1
        clear H1
        replace H := Option.bind_eq_some_iff.mp H
        obtain ⟨t109, A80, H⟩ := H
        replace H : (some t109) = some r := H
        have A8 := Aside0.mk A80
        clear A80
        obtain rfl := Option.some.inj H
        go_wp2_with (first | ((with_reducible refine gate_callee (f := 12) rfl ?_); refine goesL_ (some 18) rfl rfl Try.func12 (by kernel_rfl) rfl #[] rfl (by (try simp only [List.map_toArray, List.map_cons, List.map_nil]); first | done | rfl | (simp only [List.length_drop, List.length_take]; rfl)) ?_; (with_reducible refine (castellanlaw19_known.calls  t109 _ A8.out).mono ?_); rintro e w9 ⟨rfl, hb⟩; refine ⟨_, rfl, ?_⟩; have n0_ := Aside0.mk (below_step (by repeat (first | (with_reducible first | exact HB.out | apply below_alloc | apply pw_below_drewN | apply below_drew1) | exact HB.out)) hb); clear HB; have HB := n0_; clear n0_; (try clear hb); (try clear hb2); (try clear hk); (try clear hi)))
        go_ret
        exact ⟨by first | rfl | (simp [errW_none, errW_some] <;> rfl) | (simp [*, errW_none, errW_some] <;> rfl), by repeat (first | (with_reducible first | exact HB.out | apply below_alloc | apply pw_below_drewN | apply below_drew1) | exact HB.out)⟩
      · replace c7 := Bool.eq_false_iff.mpr c7
        subst c7
        have H1 : (if a3 = 3 then (if a2 = 2 then ((reply_May.f 0 0 false false 0 0 a1 a0 0 ([] : List Int) ([] : List Int) a2 0 0 0 a3 0 none).bind fun t111 => (if (t111 == (!true)) = true then ((castellanlaw19_known.f).bind fun t112 => (some t112)) else (some false))) else (if (a0 / 16777216) = 0 then ((reply_May.f 0 0 false false 0 0 a1 a0 0 ([] : List Int) ([] : List Int) a2 0 0 0 a3 0 none).bind fun t113 => (if (t113 == (!true)) = true then ((castellanlaw19_known.f).bind fun t114 => (some t114)) else (some false))) else ((castellanref3_Cast.f a0).bind fun t115 => (if t115 = true then ((reply_May.f 0 0 false false 0 0 a1 a0 0 ([] : List Int) ([] : List Int) a2 0 0 0 a3 0 none).bind fun t116 => (if (t116 == (!true)) = true then ((castellanlaw19_known.f).bind fun t117 => (some t117)) else (some false))) else (if a1 = 1 then (if a2 = 1 then ((reply_May.f 0 0 false false 0 0 a1 a0 0 ([] : List Int) ([] : List Int) a2 0 0 0 a3 0 none).bind fun t118 => (if (t118 == (!true)) = true then ((castellanlaw19_known.f).bind fun t119 => (some t119)) else (some false))) else ((reply_May.f 0 0 false false 0 0 a1 a0 0 ([] : List Int) ([] : List Int) a2 0 0 0 a3 0 none).bind fun t120 => (if (t120 == (!true)) = true then ((castellanlaw19_known.f).bind fun t121 => (some t121)) else (some false)))) else ((reply_May.f 0 0 false false 0 0 a1 a0 0 ([] : List Int) ([] : List Int) a2 0 0 0 a3 0 none).bind fun t122 => (if (t122 == (!false)) = true then ((castellanlaw19_known.f).bind fun t123 => (some t123)) else (some false)))))))) else (if a3 = 4 then (if a2 = 2 then ((reply_May.f 0 0 false false 0 0 a1 a0 0 ([] : List Int) ([] : List Int) a2 0 0 0 a3 0 none).bind fun t124 => (if (t124 == (!true)) = true then ((castellanlaw19_known.f).bind fun t125 => (some t125)) else (some false))) else (if (a0 / 16777216) = 0 then ((reply_May.f 0 0 false false 0 0 a1 a0 0 ([] : List Int) ([] : List Int) a2 0 0 0 a3 0 none).bind fun t126 => (if (t126 == (!true)) = true then ((castellanlaw19_known.f).bind fun t127 => (some t127)) else (some false))) else ((castellanref3_Cast.f a0).bind fun t128 => (if t128 = true then ((reply_May.f 0 0 false false 0 0 a1 a0 0 ([] : List Int) ([] : List Int) a2 0 0 0 a3 0 none).bind fun t129 => (if (t129 == (!true)) = true then ((castellanlaw19_known.f).bind fun t130 => (some t130)) else (some false))) else (if a1 = 1 then (if a2 = 1 then ((reply_May.f 0 0 false false 0 0 a1 a0 0 ([] : List Int) ([] : List Int) a2 0 0 0 a3 0 none).bind fun t131 => (if (t131 == (!true)) = true then ((castellanlaw19_known.f).bind fun t132 => (some t132)) else (some false))) else ((reply_May.f 0 0 false false 0 0 a1 a0 0 ([] : List Int) ([] : List Int) a2 0 0 0 a3 0 none).bind fun t133 => (if (t133 == (!true)) = true then ((castellanlaw19_known.f).bind fun t134 => (some t134)) else (some false)))) else ((reply_May.f 0 0 false false 0 0 a1 a0 0 ([] : List Int) ([] : List Int) a2 0 0 0 a3 0 none).bind fun t135 => (if (t135 == (!false)) = true then ((castellanlaw19_known.f).bind fun t136 => (some t136)) else (some false)))))))) else (if a3 = 5 then (if a2 = 2 then ((reply_May.f 0 0 false false 0 0 a1 a0 0 ([] : List Int) ([] : List Int) a2 0 0 0 a3 0 none).bind fun t137 => (if (t137 == (!true)) = true then ((castellanlaw19_known.f).bind fun t138 => (some t138)) else (some false))) else (if (a0 / 16777216) = 0 then ((reply_May.f 0 0 false false 0 0 a1 a0 0 ([] : List Int) ([] : List Int) a2 0 0 0 a3 0 none).bind fun t139 => (if (t139 == (!true)) = true then ((castellanlaw19_known.f).bind fun t140 => (some t140)) else (some false))) else ((castellanref3_Cast.f a0).bind fun t141 => (if t141 = true then ((reply_May.f 0 0 false false 0 0 a1 a0 0 ([] : List Int) ([] : List Int) a2 0 0 0 a3 0 none).bind fun t142 => (if (t142 == (!true)) = true then ((castellanlaw19_known.f).bind fun t143 => (some t143)) else (some false))) else (if a1 = 1 then (if a2 = 1 then ((reply_May.f 0 0 false false 0 0 a1 a0 0 ([] : List Int) ([] : List Int) a2 0 0 0 a3 0 none).bind fun t144 => (if (t144 == (!true)) = true then ((castellanlaw19_known.f).bind fun t145 => (some t145)) else (some false))) else ((reply_May.f 0 0 false false 0 0 a1 a0 0 ([] : List Int) ([] : List Int) a2 0 0 0 a3 0 none).bind fun t146 => (if (t146 == (!true)) = true then ((castellanlaw19_known.f).bind fun t147 => (some t147)) else (some false)))) else ((reply_May.f 0 0 false false 0 0 a1 a0 0 ([] : List Int) ([] : List Int) a2 0 0 0 a3 0 none).bind fun t148 => (if (t148 == (!false)) = true then ((castellanlaw19_known.f).bind fun t149 => (some t149)) else (some false)))))))) else (if a3 = 11 then (if a2 = 2 then ((reply_May.f 0 0 false false 0 0 a1 a0 0 ([] : List Int) ([] : List Int) a2 0 0 0 a3 0 none).bind fun t150 => (if (t150 == (!true)) = true then ((castellanlaw19_known.f).bind fun t151 => (some t151)) else (some false))) else (if (a0 / 16777216) = 0 then ((reply_May.f 0 0 false false 0 0 a1 a0 0 ([] : List Int) ([] : List Int) a2 0 0 0 a3 0 none).bind fun t152 => (if (t152 == (!true)) = true then ((castellanlaw19_known.f).bind fun t153 => (some t153)) else (some false))) else ((castellanref3_Cast.f a0).bind fun t154 => (if t154 = true then ((reply_May.f 0 0 false false 0 0 a1 a0 0 ([] : List Int) ([] : List Int) a2 0 0 0 a3 0 none).bind fun t155 => (if (t155 == (!true)) = true then ((castellanlaw19_known.f).bind fun t156 => (some t156)) else (some false))) else (if a1 = 1 then (if a2 = 1 then ((reply_May.f 0 0 false false 0 0 a1 a0 0 ([] : List Int) ([] : List Int) a2 0 0 0 a3 0 none).bind fun t157 => (if (t157 == (!true)) = true then ((castellanlaw19_known.f).bind fun t158 => (some t158)) else (some false))) else ((reply_May.f 0 0 false false 0 0 a1 a0 0 ([] : List Int) ([] : List Int) a2 0 0 0 a3 0 none).bind fun t159 => (if (t159 == (!true)) = true then ((castellanlaw19_known.f).bind fun t160 => (some t160)) else (some false)))) else ((reply_May.f 0 0 false false 0 0 a1 a0 0 ([] : List Int) ([] : List Int) a2 0 0 0 a3 0 none).bind fun t161 => (if (t161 == (!false)) = true then ((castellanlaw19_known.f).bind fun t162 => (some t162)) else (some false)))))))) else (if a2 = 2 then ((reply_May.f 0 0 false false 0 0 a1 a0 0 ([] : List Int) ([] : List Int) a2 0 0 0 a3 0 none).bind fun t163 => (if (t163 == (!true)) = true then ((castellanlaw19_known.f).bind fun t164 => (some t164)) else (some false))) else (if (a0 / 16777216) = 0 then ((reply_May.f 0 0 false false 0 0 a1 a0 0 ([] : List Int) ([] : List Int) a2 0 0 0 a3 0 none).bind fun t165 => (if (t165 == (!true)) = true then ((castellanlaw19_known.f).bind fun t166 => (some t166)) else (some false))) else ((castellanref3_Cast.f a0).bind fun t167 => (if t167 = true then ((reply_May.f 0 0 false false 0 0 a1 a0 0 ([] : List Int) ([] : List Int) a2 0 0 0 a3 0 none).bind fun t168 => (if (t168 == (!true)) = true then ((castellanlaw19_known.f).bind fun t169 => (some t169)) else (some false))) else (if a1 = 1 then (if a2 = 1 then ((reply_May.f 0 0 false false 0 0 a1 a0 0 ([] : List Int) ([] : List Int) a2 0 0 0 a3 0 none).bind fun t170 => (if (t170 == (!true)) = true then ((castellanlaw19_known.f).bind fun t171 => (some t171)) else (some false))) else ((reply_May.f 0 0 false false 0 0 a1 a0 0 ([] : List Int) ([] : List Int) a2 0 0 0 a3 0 none).bind fun t172 => (if (t172 == (!(a3 == 12))) = true then ((castellanlaw19_known.f).bind fun t173 => (some t173)) else (some false)))) else ((reply_May.f 0 0 false false 0 0 a1 a0 0 ([] : List Int) ([] : List Int) a2 0 0 0 a3 0 none).bind fun t174 => (if (t174 == (!false)) = true then ((castellanlaw19_known.f).bind fun t175 => (some t175)) else (some false)))))))))))) = some r := by rw [if_neg (show ¬ (false = true) by decide)] at H; exact H
        clear H
        have H := H1
        clear H1
        by_cases c10 : a3 = 3
        · rw [if_pos c10] at H
          have c10b0 : (a3 == 3) = true := beq_iff_eq.mpr c10
          have c10b1 : (a3 != 3) = false := bne_eq_false_iff_eq.mpr c10
          clear c10
          by_cases c11 : a2 = 2
          · rw [if_pos c11] at H
            have c11b0 : (a2 == 2) = true := beq_iff_eq.mpr c11
            have c11b1 : (a2 != 2) = false := bne_eq_false_iff_eq.mpr c11
            clear c11
            replace H := Option.bind_eq_some_iff.mp H
            obtain ⟨t111, A120, H⟩ := H
            replace H : (if (t111 == (!true)) = true then ((castellanlaw19_known.f).bind fun t112 => (some t112)) else (some false)) = some r := H
            have A12 := Aside0.mk A120
            clear A120
            by_cases c13 : (t111 == (!true)) = true
            · rw [if_pos c13] at H
              have c13b0 : (t111 == (!true)) = true := c13
              have c13n0 : (t111) = false := by simpa using c13b0
              (try (have c13b1 : decide (t111 = (!true)) = true := by simpa using c13))
              (try (have c13b2 : (t111 == (!true)) = true := by simpa using c13))
              clear c13
              replace H := Option.bind_eq_some_iff.mp H
              obtain ⟨t112, A140, H⟩ := H
              replace H : (some t112) = some r := H
              have A14 := Aside0.mk A140
              clear A140
              obtain rfl := Option.some.inj H
              have HO := Aside0.mk (Owns.nil_of HB.out)
              have HF : True := trivial
              go_wp2_with (first | ((with_reducible refine gate_dst (N := 9) rfl ?_); refine ow_box HO rfl (N := 9) rfl #[.int .i64 0, .int .i64 0, .bool false, .bool false, .int .i64 0, .int .i64 0, .int .i64 0, .int .u32 0, .int .u32 0, .slice none 0 0, .slice none 0 0, .int .i64 0, .int .i64 0, .int .i64 0, .int .i64 0, .int .i64 0, .int .i64 0, .pointer none] 29 ?hr rfl ?_; (case hr => first | (go_simp; done) | (go_simp; rfl)); clear HO HF; intro g9 w1 HO; have HF := HO.out.facts; simp only [Owns.Facts, and_true] at HF) | ((with_reducible refine gate_store (p := 9) rfl ?_); (first | refine ow_put HO rfl rfl 0 rfl (ty := 29) rfl _ rfl rfl (by kernel_rfl) rfl rfl ?_); clear HO HF; intro w1 HO; simp only [List.set_cons_zero, List.set_cons_succ, List.setIfInBounds_toArray] at HO; have HF := HO.out.facts; simp only [Owns.Facts, and_true] at HF) | ((with_reducible refine gate_dst (N := 65) rfl ?_); (first | refine ow_load HO rfl 0 rfl 29 _ rfl _ rfl Try.underlying29 rfl (by kernel_rfl) ?_)) | ((with_reducible refine gate_callee (f := 14) rfl ?_); refine goesL_ (some 66) rfl rfl Try.func14 (by kernel_rfl) rfl #[.agg #[.int .i64 0, .int .i64 0, .bool false, .bool false, .int .i64 0, .int .i64 0, .int .i64 a1, .int .u32 a0, .int .u32 0, .slice none 0 0, .slice none 0 0, .int .i64 a2, .int .i64 0, .int .i64 0, .int .i64 0, .int .i64 a3, .int .i64 0, .pointer none]] rfl (by (try simp only [List.map_toArray, List.map_cons, List.map_nil]); first | done | rfl | (simp only [List.length_drop, List.length_take]; rfl)) ?_; (refine (reply_May.calls 0 0 false false 0 0 a1 a0 0 _ _ ([] : List Int) _ _ ([] : List Int) a2 0 0 0 a3 0 none t111 _ ?side1 ?side2 ?side3 ?side4 A12.out).mono ?_); (case side1 => exact Kd.C_nil _ _); (case side2 => exact Nat.le_refl _); (case side3 => exact Kd.C_nil _ _); (case side4 => exact Nat.le_refl _); rintro e w1 ⟨rfl, hb⟩; refine ⟨_, rfl, ?_⟩; replace HO := Aside0.mk (HO.out.step hb); clear HF; have HF := HO.out.facts; simp only [Owns.Facts, and_true] at HF) | (go_at_call 12; (with_reducible refine (castellanlaw19_known.calls  t112 _ A14.out).mono ?_); rintro e w1 ⟨rfl, hb⟩; replace HO := Aside0.mk (HO.out.step hb); clear HF; have HF := HO.out.facts; simp only [Owns.Facts, and_true] at HF))
              go_ret
              exact ⟨by first | rfl | (simp; done) | (simp [*]; done), HO.out.below⟩
            · rw [if_neg c13] at H
              have c13b0 : (t111 == (!true)) = false := by simpa using c13
              have c13n0 : (t111) = true := by simpa using c13b0
              (try (have c13b1 : decide (t111 = (!true)) = false := by simpa using c13))
              (try (have c13b2 : (t111 == (!true)) = false := by simpa using c13))
              (try (have c13b3 : ¬ (t111 = (!true)) := by simpa using c13))
              clear c13
              exact absurd (H.trans (congrArg some HRT.out)) (by simp)
          · rw [if_neg c11] at H
            have c11b0 : (a2 == 2) = false := beq_eq_false_iff_ne.mpr c11
            have c11b1 : (a2 != 2) = true := bne_iff_ne.mpr c11
            by_cases c19 : (a0 / 16777216) = 0
            · rw [if_pos c19] at H
              have c19b0 : ((a0 / 16777216) == 0) = true := beq_iff_eq.mpr c19
              have c19b1 : ((a0 / 16777216) != 0) = false := bne_eq_false_iff_eq.mpr c19
              clear c19
              replace H := Option.bind_eq_some_iff.mp H
              obtain ⟨t113, A200, H⟩ := H
              replace H : (if (t113 == (!true)) = true then ((castellanlaw19_known.f).bind fun t114 => (some t114)) else (some false)) = some r := H
              have A20 := Aside0.mk A200
              clear A200
              by_cases c21 : (t113 == (!true)) = true
              · rw [if_pos c21] at H
                have c21b0 : (t113 == (!true)) = true := c21
                have c21n0 : (t113) = false := by simpa using c21b0
                (try (have c21b1 : decide (t113 = (!true)) = true := by simpa using c21))
                (try (have c21b2 : (t113 == (!true)) = true := by simpa using c21))
                clear c21
                replace H := Option.bind_eq_some_iff.mp H
                obtain ⟨t114, A220, H⟩ := H
                replace H : (some t114) = some r := H
                have A22 := Aside0.mk A220
                clear A220
                obtain rfl := Option.some.inj H
                have HO := Aside0.mk (Owns.nil_of HB.out)
                have HF : True := trivial
                go_wp2_with (first | ((with_reducible refine gate_dst (N := 9) rfl ?_); refine ow_box HO rfl (N := 9) rfl #[.int .i64 0, .int .i64 0, .bool false, .bool false, .int .i64 0, .int .i64 0, .int .i64 0, .int .u32 0, .int .u32 0, .slice none 0 0, .slice none 0 0, .int .i64 0, .int .i64 0, .int .i64 0, .int .i64 0, .int .i64 0, .int .i64 0, .pointer none] 29 ?hr rfl ?_; (case hr => first | (go_simp; done) | (go_simp; rfl)); clear HO HF; intro g9 w1 HO; have HF := HO.out.facts; simp only [Owns.Facts, and_true] at HF) | ((with_reducible refine gate_store (p := 9) rfl ?_); (first | refine ow_put HO rfl rfl 0 rfl (ty := 29) rfl _ rfl rfl (by kernel_rfl) rfl rfl ?_); clear HO HF; intro w1 HO; simp only [List.set_cons_zero, List.set_cons_succ, List.setIfInBounds_toArray] at HO; have HF := HO.out.facts; simp only [Owns.Facts, and_true] at HF) | ((with_reducible refine gate_dst (N := 65) rfl ?_); (first | refine ow_load HO rfl 0 rfl 29 _ rfl _ rfl Try.underlying29 rfl (by kernel_rfl) ?_)) | ((with_reducible refine gate_callee (f := 14) rfl ?_); refine goesL_ (some 66) rfl rfl Try.func14 (by kernel_rfl) rfl #[.agg #[.int .i64 0, .int .i64 0, .bool false, .bool false, .int .i64 0, .int .i64 0, .int .i64 a1, .int .u32 a0, .int .u32 0, .slice none 0 0, .slice none 0 0, .int .i64 a2, .int .i64 0, .int .i64 0, .int .i64 0, .int .i64 a3, .int .i64 0, .pointer none]] rfl (by (try simp only [List.map_toArray, List.map_cons, List.map_nil]); first | done | rfl | (simp only [List.length_drop, List.length_take]; rfl)) ?_; (refine (reply_May.calls 0 0 false false 0 0 a1 a0 0 _ _ ([] : List Int) _ _ ([] : List Int) a2 0 0 0 a3 0 none t113 _ ?side1 ?side2 ?side3 ?side4 A20.out).mono ?_); (case side1 => exact Kd.C_nil _ _); (case side2 => exact Nat.le_refl _); (case side3 => exact Kd.C_nil _ _); (case side4 => exact Nat.le_refl _); rintro e w1 ⟨rfl, hb⟩; refine ⟨_, rfl, ?_⟩; replace HO := Aside0.mk (HO.out.step hb); clear HF; have HF := HO.out.facts; simp only [Owns.Facts, and_true] at HF) | (go_at_call 12; (with_reducible refine (castellanlaw19_known.calls  t114 _ A22.out).mono ?_); rintro e w1 ⟨rfl, hb⟩; replace HO := Aside0.mk (HO.out.step hb); clear HF; have HF := HO.out.facts; simp only [Owns.Facts, and_true] at HF))
                go_ret
                exact ⟨by first | rfl | (simp; done) | (simp [*]; done), HO.out.below⟩
              · rw [if_neg c21] at H
                have c21b0 : (t113 == (!true)) = false := by simpa using c21
                have c21n0 : (t113) = true := by simpa using c21b0
                (try (have c21b1 : decide (t113 = (!true)) = false := by simpa using c21))
                (try (have c21b2 : (t113 == (!true)) = false := by simpa using c21))
                (try (have c21b3 : ¬ (t113 = (!true)) := by simpa using c21))
                clear c21
                exact absurd (H.trans (congrArg some HRT.out)) (by simp)
            · rw [if_neg c19] at H
              have c19b0 : ((a0 / 16777216) == 0) = false := beq_eq_false_iff_ne.mpr c19
              have c19b1 : ((a0 / 16777216) != 0) = true := bne_iff_ne.mpr c19
              replace H := Option.bind_eq_some_iff.mp H
              obtain ⟨t115, A270, H⟩ := H
              replace H : (if t115 = true then ((reply_May.f 0 0 false false 0 0 a1 a0 0 ([] : List Int) ([] : List Int) a2 0 0 0 a3 0 none).bind fun t116 => (if (t116 == (!true)) = true then ((castellanlaw19_known.f).bind fun t117 => (some t117)) else (some false))) else (if a1 = 1 then (if a2 = 1 then ((reply_May.f 0 0 false false 0 0 a1 a0 0 ([] : List Int) ([] : List Int) a2 0 0 0 a3 0 none).bind fun t118 => (if (t118 == (!true)) = true then ((castellanlaw19_known.f).bind fun t119 => (some t119)) else (some false))) else ((reply_May.f 0 0 false false 0 0 a1 a0 0 ([] : List Int) ([] : List Int) a2 0 0 0 a3 0 none).bind fun t120 => (if (t120 == (!true)) = true then ((castellanlaw19_known.f).bind fun t121 => (some t121)) else (some false)))) else ((reply_May.f 0 0 false false 0 0 a1 a0 0 ([] : List Int) ([] : List Int) a2 0 0 0 a3 0 none).bind fun t122 => (if (t122 == (!false)) = true then ((castellanlaw19_known.f).bind fun t123 => (some t123)) else (some false))))) = some r := H
              have A27 := Aside0.mk A270
              clear A270
              by_cases c28 : t115 = true
              · subst c28
                have H1 : ((reply_May.f 0 0 false false 0 0 a1 a0 0 ([] : List Int) ([] : List Int) a2 0 0 0 a3 0 none).bind fun t116 => (if (t116 == (!true)) = true then ((castellanlaw19_known.f).bind fun t117 => (some t117)) else (some false))) = some r := by rw [if_pos rfl] at H; exact H
                clear H
                have H := H1
                clear H1
                replace H := Option.bind_eq_some_iff.mp H
                obtain ⟨t116, A290, H⟩ := H
                replace H : (if (t116 == (!true)) = true then ((castellanlaw19_known.f).bind fun t117 => (some t117)) else (some false)) = some r := H
                have A29 := Aside0.mk A290
                clear A290
                by_cases c30 : (t116 == (!true)) = true
                · rw [if_pos c30] at H
                  have c30b0 : (t116 == (!true)) = true := c30
                  have c30n0 : (t116) = false := by simpa using c30b0
                  (try (have c30b1 : decide (t116 = (!true)) = true := by simpa using c30))
                  (try (have c30b2 : (t116 == (!true)) = true := by simpa using c30))
                  clear c30
                  replace H := Option.bind_eq_some_iff.mp H
                  obtain ⟨t117, A310, H⟩ := H
                  replace H : (some t117) = some r := H
                  have A31 := Aside0.mk A310
                  clear A310
                  obtain rfl := Option.some.inj H
                  have HO := Aside0.mk (Owns.nil_of HB.out)
                  have HF : True := trivial
                  go_wp2_with (first | ((with_reducible refine gate_dst (N := 9) rfl ?_); refine ow_box HO rfl (N := 9) rfl #[.int .i64 0, .int .i64 0, .bool false, .bool false, .int .i64 0, .int .i64 0, .int .i64 0, .int .u32 0, .int .u32 0, .slice none 0 0, .slice none 0 0, .int .i64 0, .int .i64 0, .int .i64 0, .int .i64 0, .int .i64 0, .int .i64 0, .pointer none] 29 ?hr rfl ?_; (case hr => first | (go_simp; done) | (go_simp; rfl)); clear HO HF; intro g9 w1 HO; have HF := HO.out.facts; simp only [Owns.Facts, and_true] at HF) | ((with_reducible refine gate_store (p := 9) rfl ?_); (first | refine ow_put HO rfl rfl 0 rfl (ty := 29) rfl _ rfl rfl (by kernel_rfl) rfl rfl ?_); clear HO HF; intro w1 HO; simp only [List.set_cons_zero, List.set_cons_succ, List.setIfInBounds_toArray] at HO; have HF := HO.out.facts; simp only [Owns.Facts, and_true] at HF) | ((with_reducible refine gate_dst (N := 65) rfl ?_); (first | refine ow_load HO rfl 0 rfl 29 _ rfl _ rfl Try.underlying29 rfl (by kernel_rfl) ?_)) | (go_at_call 13; (with_reducible refine (castellanref3_Cast.calls a0 true _ A27.out).mono ?_); rintro e w1 ⟨rfl, hd⟩; replace HO := Aside0.mk (HO.out.drawn hd); clear HF; have HF := HO.out.facts; simp only [Owns.Facts, and_true] at HF) | ((with_reducible refine gate_callee (f := 14) rfl ?_); refine goesL_ (some 66) rfl rfl Try.func14 (by kernel_rfl) rfl #[.agg #[.int .i64 0, .int .i64 0, .bool false, .bool false, .int .i64 0, .int .i64 0, .int .i64 a1, .int .u32 a0, .int .u32 0, .slice none 0 0, .slice none 0 0, .int .i64 a2, .int .i64 0, .int .i64 0, .int .i64 0, .int .i64 a3, .int .i64 0, .pointer none]] rfl (by (try simp only [List.map_toArray, List.map_cons, List.map_nil]); first | done | rfl | (simp only [List.length_drop, List.length_take]; rfl)) ?_; (refine (reply_May.calls 0 0 false false 0 0 a1 a0 0 _ _ ([] : List Int) _ _ ([] : List Int) a2 0 0 0 a3 0 none t116 _ ?side1 ?side2 ?side3 ?side4 A29.out).mono ?_); (case side1 => exact Kd.C_nil _ _); (case side2 => exact Nat.le_refl _); (case side3 => exact Kd.C_nil _ _); (case side4 => exact Nat.le_refl _); rintro e w1 ⟨rfl, hb⟩; refine ⟨_, rfl, ?_⟩; replace HO := Aside0.mk (HO.out.step hb); clear HF; have HF := HO.out.facts; simp only [Owns.Facts, and_true] at HF) | (go_at_call 12; (with_reducible refine (castellanlaw19_known.calls  t117 _ A31.out).mono ?_); rintro e w1 ⟨rfl, hb⟩; replace HO := Aside0.mk (HO.out.step hb); clear HF; have HF := HO.out.facts; simp only [Owns.Facts, and_true] at HF))
                  go_ret
                  exact ⟨by first | rfl | (simp; done) | (simp [*]; done), HO.out.below⟩
                · rw [if_neg c30] at H
                  have c30b0 : (t116 == (!true)) = false := by simpa using c30
                  have c30n0 : (t116) = true := by simpa using c30b0
                  (try (have c30b1 : decide (t116 = (!true)) = false := by simpa using c30))
                  (try (have c30b2 : (t116 == (!true)) = false := by simpa using c30))
                  (try (have c30b3 : ¬ (t116 = (!true)) := by simpa using c30))
                  clear c30
                  exact absurd (H.trans (congrArg some HRT.out)) (by simp)
              · replace c28 := Bool.eq_false_iff.mpr c28
                subst c28
                have H1 : (if a1 = 1 then (if a2 = 1 then ((reply_May.f 0 0 false false 0 0 a1 a0 0 ([] : List Int) ([] : List Int) a2 0 0 0 a3 0 none).bind fun t118 => (if (t118 == (!true)) = true then ((castellanlaw19_known.f).bind fun t119 => (some t119)) else (some false))) else ((reply_May.f 0 0 false false 0 0 a1 a0 0 ([] : List Int) ([] : List Int) a2 0 0 0 a3 0 none).bind fun t120 => (if (t120 == (!true)) = true then ((castellanlaw19_known.f).bind fun t121 => (some t121)) else (some false)))) else ((reply_May.f 0 0 false false 0 0 a1 a0 0 ([] : List Int) ([] : List Int) a2 0 0 0 a3 0 none).bind fun t122 => (if (t122 == (!false)) = true then ((castellanlaw19_known.f).bind fun t123 => (some t123)) else (some false)))) = some r := by rw [if_neg (show ¬ (false = true) by decide)] at H; exact H
                clear H
                have H := H1
                clear H1
                by_cases c36 : a1 = 1
                · rw [if_pos c36] at H
                  have c36b0 : (a1 == 1) = true := beq_iff_eq.mpr c36
                  have c36b1 : (a1 != 1) = false := bne_eq_false_iff_eq.mpr c36
                  clear c36
                  by_cases c37 : a2 = 1
                  · rw [if_pos c37] at H
                    have c37b0 : (a2 == 1) = true := beq_iff_eq.mpr c37
                    have c37b1 : (a2 != 1) = false := bne_eq_false_iff_eq.mpr c37
                    clear c37
                    replace H := Option.bind_eq_some_iff.mp H
                    obtain ⟨t118, A380, H⟩ := H
                    replace H : (if (t118 == (!true)) = true then ((castellanlaw19_known.f).bind fun t119 => (some t119)) else (some false)) = some r := H
                    have A38 := Aside0.mk A380
                    clear A380
                    by_cases c39 : (t118 == (!true)) = true
                    · rw [if_pos c39] at H
                      have c39b0 : (t118 == (!true)) = true := c39
                      have c39n0 : (t118) = false := by simpa using c39b0
                      (try (have c39b1 : decide (t118 = (!true)) = true := by simpa using c39))
                      (try (have c39b2 : (t118 == (!true)) = true := by simpa using c39))
                      clear c39
                      replace H := Option.bind_eq_some_iff.mp H
                      obtain ⟨t119, A400, H⟩ := H
                      replace H : (some t119) = some r := H
                      have A40 := Aside0.mk A400
                      clear A400
                      obtain rfl := Option.some.inj H
                      have HO := Aside0.mk (Owns.nil_of HB.out)
                      have HF : True := trivial
                      go_wp2_with (first | ((with_reducible refine gate_dst (N := 9) rfl ?_); refine ow_box HO rfl (N := 9) rfl #[.int .i64 0, .int .i64 0, .bool false, .bool false, .int .i64 0, .int .i64 0, .int .i64 0, .int .u32 0, .int .u32 0, .slice none 0 0, .slice none 0 0, .int .i64 0, .int .i64 0, .int .i64 0, .int .i64 0, .int .i64 0, .int .i64 0, .pointer none] 29 ?hr rfl ?_; (case hr => first | (go_simp; done) | (go_simp; rfl)); clear HO HF; intro g9 w1 HO; have HF := HO.out.facts; simp only [Owns.Facts, and_true] at HF) | ((with_reducible refine gate_store (p := 9) rfl ?_); (first | refine ow_put HO rfl rfl 0 rfl (ty := 29) rfl _ rfl rfl (by kernel_rfl) rfl rfl ?_); clear HO HF; intro w1 HO; simp only [List.set_cons_zero, List.set_cons_succ, List.setIfInBounds_toArray] at HO; have HF := HO.out.facts; simp only [Owns.Facts, and_true] at HF) | ((with_reducible refine gate_dst (N := 65) rfl ?_); (first | refine ow_load HO rfl 0 rfl 29 _ rfl _ rfl Try.underlying29 rfl (by kernel_rfl) ?_)) | (go_at_call 13; (with_reducible refine (castellanref3_Cast.calls a0 false _ A27.out).mono ?_); rintro e w1 ⟨rfl, hd⟩; replace HO := Aside0.mk (HO.out.drawn hd); clear HF; have HF := HO.out.facts; simp only [Owns.Facts, and_true] at HF) | ((with_reducible refine gate_callee (f := 14) rfl ?_); refine goesL_ (some 66) rfl rfl Try.func14 (by kernel_rfl) rfl #[.agg #[.int .i64 0, .int .i64 0, .bool false, .bool false, .int .i64 0, .int .i64 0, .int .i64 a1, .int .u32 a0, .int .u32 0, .slice none 0 0, .slice none 0 0, .int .i64 a2, .int .i64 0, .int .i64 0, .int .i64 0, .int .i64 a3, .int .i64 0, .pointer none]] rfl (by (try simp only [List.map_toArray, List.map_cons, List.map_nil]); first | done | rfl | (simp only [List.length_drop, List.length_take]; rfl)) ?_; (refine (reply_May.calls 0 0 false false 0 0 a1 a0 0 _ _ ([] : List Int) _ _ ([] : List Int) a2 0 0 0 a3 0 none t118 _ ?side1 ?side2 ?side3 ?side4 A38.out).mono ?_); (case side1 => exact Kd.C_nil _ _); (case side2 => exact Nat.le_refl _); (case side3 => exact Kd.C_nil _ _); (case side4 => exact Nat.le_refl _); rintro e w1 ⟨rfl, hb⟩; refine ⟨_, rfl, ?_⟩; replace HO := Aside0.mk (HO.out.step hb); clear HF; have HF := HO.out.facts; simp only [Owns.Facts, and_true] at HF) | (go_at_call 12; (with_reducible refine (castellanlaw19_known.calls  t119 _ A40.out).mono ?_); rintro e w1 ⟨rfl, hb⟩; replace HO := Aside0.mk (HO.out.step hb); clear HF; have HF := HO.out.facts; simp only [Owns.Facts, and_true] at HF))
                      go_ret
                      exact ⟨by first | rfl | (simp; done) | (simp [*]; done), HO.out.below⟩
                    · rw [if_neg c39] at H
                      have c39b0 : (t118 == (!true)) = false := by simpa using c39
                      have c39n0 : (t118) = true := by simpa using c39b0
                      (try (have c39b1 : decide (t118 = (!true)) = false := by simpa using c39))
                      (try (have c39b2 : (t118 == (!true)) = false := by simpa using c39))
                      (try (have c39b3 : ¬ (t118 = (!true)) := by simpa using c39))
                      clear c39
                      exact absurd (H.trans (congrArg some HRT.out)) (by simp)
                  · rw [if_neg c37] at H
                    have c37b0 : (a2 == 1) = false := beq_eq_false_iff_ne.mpr c37
                    have c37b1 : (a2 != 1) = true := bne_iff_ne.mpr c37
                    replace H := Option.bind_eq_some_iff.mp H
                    obtain ⟨t120, A450, H⟩ := H
                    replace H : (if (t120 == (!true)) = true then ((castellanlaw19_known.f).bind fun t121 => (some t121)) else (some false)) = some r := H
                    have A45 := Aside0.mk A450
                    clear A450
                    by_cases c46 : (t120 == (!true)) = true
                    · rw [if_pos c46] at H
                      have c46b0 : (t120 == (!true)) = true := c46
                      have c46n0 : (t120) = false := by simpa using c46b0
                      (try (have c46b1 : decide (t120 = (!true)) = true := by simpa using c46))
                      (try (have c46b2 : (t120 == (!true)) = true := by simpa using c46))
                      clear c46
                      replace H := Option.bind_eq_some_iff.mp H
                      obtain ⟨t121, A470, H⟩ := H
                      replace H : (some t121) = some r := H
                      have A47 := Aside0.mk A470
                      clear A470
                      obtain rfl := Option.some.inj H
                      have HO := Aside0.mk (Owns.nil_of HB.out)
                      have HF : True := trivial
                      go_wp2_with (first | ((with_reducible refine gate_dst (N := 9) rfl ?_); refine ow_box HO rfl (N := 9) rfl #[.int .i64 0, .int .i64 0, .bool false, .bool false, .int .i64 0, .int .i64 0, .int .i64 0, .int .u32 0, .int .u32 0, .slice none 0 0, .slice none 0 0, .int .i64 0, .int .i64 0, .int .i64 0, .int .i64 0, .int .i64 0, .int .i64 0, .pointer none] 29 ?hr rfl ?_; (case hr => first | (go_simp; done) | (go_simp; rfl)); clear HO HF; intro g9 w1 HO; have HF := HO.out.facts; simp only [Owns.Facts, and_true] at HF) | ((with_reducible refine gate_store (p := 9) rfl ?_); (first | refine ow_put HO rfl rfl 0 rfl (ty := 29) rfl _ rfl rfl (by kernel_rfl) rfl rfl ?_); clear HO HF; intro w1 HO; simp only [List.set_cons_zero, List.set_cons_succ, List.setIfInBounds_toArray] at HO; have HF := HO.out.facts; simp only [Owns.Facts, and_true] at HF) | ((with_reducible refine gate_dst (N := 65) rfl ?_); (first | refine ow_load HO rfl 0 rfl 29 _ rfl _ rfl Try.underlying29 rfl (by kernel_rfl) ?_)) | (go_at_call 13; (with_reducible refine (castellanref3_Cast.calls a0 false _ A27.out).mono ?_); rintro e w1 ⟨rfl, hd⟩; replace HO := Aside0.mk (HO.out.drawn hd); clear HF; have HF := HO.out.facts; simp only [Owns.Facts, and_true] at HF) | ((with_reducible refine gate_callee (f := 14) rfl ?_); refine goesL_ (some 66) rfl rfl Try.func14 (by kernel_rfl) rfl #[.agg #[.int .i64 0, .int .i64 0, .bool false, .bool false, .int .i64 0, .int .i64 0, .int .i64 a1, .int .u32 a0, .int .u32 0, .slice none 0 0, .slice none 0 0, .int .i64 a2, .int .i64 0, .int .i64 0, .int .i64 0, .int .i64 a3, .int .i64 0, .pointer none]] rfl (by (try simp only [List.map_toArray, List.map_cons, List.map_nil]); first | done | rfl | (simp only [List.length_drop, List.length_take]; rfl)) ?_; (refine (reply_May.calls 0 0 false false 0 0 a1 a0 0 _ _ ([] : List Int) _ _ ([] : List Int) a2 0 0 0 a3 0 none t120 _ ?side1 ?side2 ?side3 ?side4 A45.out).mono ?_); (case side1 => exact Kd.C_nil _ _); (case side2 => exact Nat.le_refl _); (case side3 => exact Kd.C_nil _ _); (case side4 => exact Nat.le_refl _); rintro e w1 ⟨rfl, hb⟩; refine ⟨_, rfl, ?_⟩; replace HO := Aside0.mk (HO.out.step hb); clear HF; have HF := HO.out.facts; simp only [Owns.Facts, and_true] at HF) | (go_at_call 12; (with_reducible refine (castellanlaw19_known.calls  t121 _ A47.out).mono ?_); rintro e w1 ⟨rfl, hb⟩; replace HO := Aside0.mk (HO.out.step hb); clear HF; have HF := HO.out.facts; simp only [Owns.Facts, and_true] at HF))
                      go_ret
                      exact ⟨by first | rfl | (simp; done) | (simp [*]; done), HO.out.below⟩
                    · rw [if_neg c46] at H
                      have c46b0 : (t120 == (!true)) = false := by simpa using c46
                      have c46n0 : (t120) = true := by simpa using c46b0
                      (try (have c46b1 : decide (t120 = (!true)) = false := by simpa using c46))
                      (try (have c46b2 : (t120 == (!true)) = false := by simpa using c46))
                      (try (have c46b3 : ¬ (t120 = (!true)) := by simpa using c46))
                      clear c46
                      exact absurd (H.trans (congrArg some HRT.out)) (by simp)
                · rw [if_neg c36] at H
                  have c36b0 : (a1 == 1) = false := beq_eq_false_iff_ne.mpr c36
                  have c36b1 : (a1 != 1) = true := bne_iff_ne.mpr c36
                  replace H := Option.bind_eq_some_iff.mp H
                  obtain ⟨t122, A520, H⟩ := H
                  replace H : (if (t122 == (!false)) = true then ((castellanlaw19_known.f).bind fun t123 => (some t123)) else (some false)) = some r := H
                  have A52 := Aside0.mk A520
                  clear A520
                  by_cases c53 : (t122 == (!false)) = true
                  · rw [if_pos c53] at H
                    have c53b0 : (t122 == (!false)) = true := c53
                    have c53n0 : (t122) = true := by simpa using c53b0
                    (try (have c53b1 : decide (t122 = (!false)) = true := by simpa using c53))
                    (try (have c53b2 : (t122 == (!false)) = true := by simpa using c53))
                    clear c53
                    replace H := Option.bind_eq_some_iff.mp H
                    obtain ⟨t123, A540, H⟩ := H
                    replace H : (some t123) = some r := H
                    have A54 := Aside0.mk A540
                    clear A540
                    obtain rfl := Option.some.inj H
                    have HO := Aside0.mk (Owns.nil_of HB.out)
                    have HF : True := trivial
                    go_wp2_with (first | ((with_reducible refine gate_dst (N := 9) rfl ?_); refine ow_box HO rfl (N := 9) rfl #[.int .i64 0, .int .i64 0, .bool false, .bool false, .int .i64 0, .int .i64 0, .int .i64 0, .int .u32 0, .int .u32 0, .slice none 0 0, .slice none 0 0, .int .i64 0, .int .i64 0, .int .i64 0, .int .i64 0, .int .i64 0, .int .i64 0, .pointer none] 29 ?hr rfl ?_; (case hr => first | (go_simp; done) | (go_simp; rfl)); clear HO HF; intro g9 w1 HO; have HF := HO.out.facts; simp only [Owns.Facts, and_true] at HF) | ((with_reducible refine gate_store (p := 9) rfl ?_); (first | refine ow_put HO rfl rfl 0 rfl (ty := 29) rfl _ rfl rfl (by kernel_rfl) rfl rfl ?_); clear HO HF; intro w1 HO; simp only [List.set_cons_zero, List.set_cons_succ, List.setIfInBounds_toArray] at HO; have HF := HO.out.facts; simp only [Owns.Facts, and_true] at HF) | ((with_reducible refine gate_dst (N := 65) rfl ?_); (first | refine ow_load HO rfl 0 rfl 29 _ rfl _ rfl Try.underlying29 rfl (by kernel_rfl) ?_)) | (go_at_call 13; (with_reducible refine (castellanref3_Cast.calls a0 false _ A27.out).mono ?_); rintro e w1 ⟨rfl, hd⟩; replace HO := Aside0.mk (HO.out.drawn hd); clear HF; have HF := HO.out.facts; simp only [Owns.Facts, and_true] at HF) | ((with_reducible refine gate_callee (f := 14) rfl ?_); refine goesL_ (some 66) rfl rfl Try.func14 (by kernel_rfl) rfl #[.agg #[.int .i64 0, .int .i64 0, .bool false, .bool false, .int .i64 0, .int .i64 0, .int .i64 a1, .int .u32 a0, .int .u32 0, .slice none 0 0, .slice none 0 0, .int .i64 a2, .int .i64 0, .int .i64 0, .int .i64 0, .int .i64 a3, .int .i64 0, .pointer none]] rfl (by (try simp only [List.map_toArray, List.map_cons, List.map_nil]); first | done | rfl | (simp only [List.length_drop, List.length_take]; rfl)) ?_; (refine (reply_May.calls 0 0 false false 0 0 a1 a0 0 _ _ ([] : List Int) _ _ ([] : List Int) a2 0 0 0 a3 0 none t122 _ ?side1 ?side2 ?side3 ?side4 A52.out).mono ?_); (case side1 => exact Kd.C_nil _ _); (case side2 => exact Nat.le_refl _); (case side3 => exact Kd.C_nil _ _); (case side4 => exact Nat.le_refl _); rintro e w1 ⟨rfl, hb⟩; refine ⟨_, rfl, ?_⟩; replace HO := Aside0.mk (HO.out.step hb); clear HF; have HF := HO.out.facts; simp only [Owns.Facts, and_true] at HF) | (go_at_call 12; (with_reducible refine (castellanlaw19_known.calls  t123 _ A54.out).mono ?_); rintro e w1 ⟨rfl, hb⟩; replace HO := Aside0.mk (HO.out.step hb); clear HF; have HF := HO.out.facts; simp only [Owns.Facts, and_true] at HF))
                    go_ret
                    exact ⟨by first | rfl | (simp; done) | (simp [*]; done), HO.out.below⟩
                  · rw [if_neg c53] at H
                    have c53b0 : (t122 == (!false)) = false := by simpa using c53
                    have c53n0 : (t122) = false := by simpa using c53b0
                    (try (have c53b1 : decide (t122 = (!false)) = false := by simpa using c53))
                    (try (have c53b2 : (t122 == (!false)) = false := by simpa using c53))
                    (try (have c53b3 : ¬ (t122 = (!false)) := by simpa using c53))
                    clear c53
                    exact absurd (H.trans (congrArg some HRT.out)) (by simp)
        · rw [if_neg c10] at H
          have c10b0 : (a3 == 3) = false := beq_eq_false_iff_ne.mpr c10
          have c10b1 : (a3 != 3) = true := bne_iff_ne.mpr c10
          by_cases c59 : a3 = 4
          · rw [if_pos c59] at H
            have c59b0 : (a3 == 4) = true := beq_iff_eq.mpr c59
            have c59b1 : (a3 != 4) = false := bne_eq_false_iff_eq.mpr c59
            clear c59
            by_cases c60 : a2 = 2
            · rw [if_pos c60] at H
              have c60b0 : (a2 == 2) = true := beq_iff_eq.mpr c60
              have c60b1 : (a2 != 2) = false := bne_eq_false_iff_eq.mpr c60
              clear c60
              replace H := Option.bind_eq_some_iff.mp H
              obtain ⟨t124, A610, H⟩ := H
              replace H : (if (t124 == (!true)) = true then ((castellanlaw19_known.f).bind fun t125 => (some t125)) else (some false)) = some r := H
              have A61 := Aside0.mk A610
              clear A610
              by_cases c62 : (t124 == (!true)) = true
              · rw [if_pos c62] at H
                have c62b0 : (t124 == (!true)) = true := c62
                have c62n0 : (t124) = false := by simpa using c62b0
                (try (have c62b1 : decide (t124 = (!true)) = true := by simpa using c62))
                (try (have c62b2 : (t124 == (!true)) = true := by simpa using c62))
                clear c62
                replace H := Option.bind_eq_some_iff.mp H
                obtain ⟨t125, A630, H⟩ := H
                replace H : (some t125) = some r := H
                have A63 := Aside0.mk A630
                clear A630
                obtain rfl := Option.some.inj H
                have HO := Aside0.mk (Owns.nil_of HB.out)
                have HF : True := trivial
                go_wp2_with (first | ((with_reducible refine gate_dst (N := 9) rfl ?_); refine ow_box HO rfl (N := 9) rfl #[.int .i64 0, .int .i64 0, .bool false, .bool false, .int .i64 0, .int .i64 0, .int .i64 0, .int .u32 0, .int .u32 0, .slice none 0 0, .slice none 0 0, .int .i64 0, .int .i64 0, .int .i64 0, .int .i64 0, .int .i64 0, .int .i64 0, .pointer none] 29 ?hr rfl ?_; (case hr => first | (go_simp; done) | (go_simp; rfl)); clear HO HF; intro g9 w1 HO; have HF := HO.out.facts; simp only [Owns.Facts, and_true] at HF) | ((with_reducible refine gate_store (p := 9) rfl ?_); (first | refine ow_put HO rfl rfl 0 rfl (ty := 29) rfl _ rfl rfl (by kernel_rfl) rfl rfl ?_); clear HO HF; intro w1 HO; simp only [List.set_cons_zero, List.set_cons_succ, List.setIfInBounds_toArray] at HO; have HF := HO.out.facts; simp only [Owns.Facts, and_true] at HF) | ((with_reducible refine gate_dst (N := 65) rfl ?_); (first | refine ow_load HO rfl 0 rfl 29 _ rfl _ rfl Try.underlying29 rfl (by kernel_rfl) ?_)) | ((with_reducible refine gate_callee (f := 14) rfl ?_); refine goesL_ (some 66) rfl rfl Try.func14 (by kernel_rfl) rfl #[.agg #[.int .i64 0, .int .i64 0, .bool false, .bool false, .int .i64 0, .int .i64 0, .int .i64 a1, .int .u32 a0, .int .u32 0, .slice none 0 0, .slice none 0 0, .int .i64 a2, .int .i64 0, .int .i64 0, .int .i64 0, .int .i64 a3, .int .i64 0, .pointer none]] rfl (by (try simp only [List.map_toArray, List.map_cons, List.map_nil]); first | done | rfl | (simp only [List.length_drop, List.length_take]; rfl)) ?_; (refine (reply_May.calls 0 0 false false 0 0 a1 a0 0 _ _ ([] : List Int) _ _ ([] : List Int) a2 0 0 0 a3 0 none t124 _ ?side1 ?side2 ?side3 ?side4 A61.out).mono ?_); (case side1 => exact Kd.C_nil _ _); (case side2 => exact Nat.le_refl _); (case side3 => exact Kd.C_nil _ _); (case side4 => exact Nat.le_refl _); rintro e w1 ⟨rfl, hb⟩; refine ⟨_, rfl, ?_⟩; replace HO := Aside0.mk (HO.out.step hb); clear HF; have HF := HO.out.facts; simp only [Owns.Facts, and_true] at HF) | (go_at_call 12; (with_reducible refine (castellanlaw19_known.calls  t125 _ A63.out).mono ?_); rintro e w1 ⟨rfl, hb⟩; replace HO := Aside0.mk (HO.out.step hb); clear HF; have HF := HO.out.facts; simp only [Owns.Facts, and_true] at HF))
                go_ret
                exact ⟨by first | rfl | (simp; done) | (simp [*]; done), HO.out.below⟩
              · rw [if_neg c62] at H
                have c62b0 : (t124 == (!true)) = false := by simpa using c62
                have c62n0 : (t124) = true := by simpa using c62b0
                (try (have c62b1 : decide (t124 = (!true)) = false := by simpa using c62))
                (try (have c62b2 : (t124 == (!true)) = false := by simpa using c62))
                (try (have c62b3 : ¬ (t124 = (!true)) := by simpa using c62))
                clear c62
                exact absurd (H.trans (congrArg some HRT.out)) (by simp)
            · rw [if_neg c60] at H
              have c60b0 : (a2 == 2) = false := beq_eq_false_iff_ne.mpr c60
              have c60b1 : (a2 != 2) = true := bne_iff_ne.mpr c60
              by_cases c68 : (a0 / 16777216) = 0
              · rw [if_pos c68] at H
                have c68b0 : ((a0 / 16777216) == 0) = true := beq_iff_eq.mpr c68
                have c68b1 : ((a0 / 16777216) != 0) = false := bne_eq_false_iff_eq.mpr c68
                clear c68
                replace H := Option.bind_eq_some_iff.mp H
                obtain ⟨t126, A690, H⟩ := H
                replace H : (if (t126 == (!true)) = true then ((castellanlaw19_known.f).bind fun t127 => (some t127)) else (some false)) = some r := H
                have A69 := Aside0.mk A690
                clear A690
                by_cases c70 : (t126 == (!true)) = true
                · rw [if_pos c70] at H
                  have c70b0 : (t126 == (!true)) = true := c70
                  have c70n0 : (t126) = false := by simpa using c70b0
                  (try (have c70b1 : decide (t126 = (!true)) = true := by simpa using c70))
                  (try (have c70b2 : (t126 == (!true)) = true := by simpa using c70))
                  clear c70
                  replace H := Option.bind_eq_some_iff.mp H
                  obtain ⟨t127, A710, H⟩ := H
                  replace H : (some t127) = some r := H
                  have A71 := Aside0.mk A710
                  clear A710
                  obtain rfl := Option.some.inj H
                  have HO := Aside0.mk (Owns.nil_of HB.out)
                  have HF : True := trivial
                  go_wp2_with (first | ((with_reducible refine gate_dst (N := 9) rfl ?_); refine ow_box HO rfl (N := 9) rfl #[.int .i64 0, .int .i64 0, .bool false, .bool false, .int .i64 0, .int .i64 0, .int .i64 0, .int .u32 0, .int .u32 0, .slice none 0 0, .slice none 0 0, .int .i64 0, .int .i64 0, .int .i64 0, .int .i64 0, .int .i64 0, .int .i64 0, .pointer none] 29 ?hr rfl ?_; (case hr => first | (go_simp; done) | (go_simp; rfl)); clear HO HF; intro g9 w1 HO; have HF := HO.out.facts; simp only [Owns.Facts, and_true] at HF) | ((with_reducible refine gate_store (p := 9) rfl ?_); (first | refine ow_put HO rfl rfl 0 rfl (ty := 29) rfl _ rfl rfl (by kernel_rfl) rfl rfl ?_); clear HO HF; intro w1 HO; simp only [List.set_cons_zero, List.set_cons_succ, List.setIfInBounds_toArray] at HO; have HF := HO.out.facts; simp only [Owns.Facts, and_true] at HF) | ((with_reducible refine gate_dst (N := 65) rfl ?_); (first | refine ow_load HO rfl 0 rfl 29 _ rfl _ rfl Try.underlying29 rfl (by kernel_rfl) ?_)) | ((with_reducible refine gate_callee (f := 14) rfl ?_); refine goesL_ (some 66) rfl rfl Try.func14 (by kernel_rfl) rfl #[.agg #[.int .i64 0, .int .i64 0, .bool false, .bool false, .int .i64 0, .int .i64 0, .int .i64 a1, .int .u32 a0, .int .u32 0, .slice none 0 0, .slice none 0 0, .int .i64 a2, .int .i64 0, .int .i64 0, .int .i64 0, .int .i64 a3, .int .i64 0, .pointer none]] rfl (by (try simp only [List.map_toArray, List.map_cons, List.map_nil]); first | done | rfl | (simp only [List.length_drop, List.length_take]; rfl)) ?_; (refine (reply_May.calls 0 0 false false 0 0 a1 a0 0 _ _ ([] : List Int) _ _ ([] : List Int) a2 0 0 0 a3 0 none t126 _ ?side1 ?side2 ?side3 ?side4 A69.out).mono ?_); (case side1 => exact Kd.C_nil _ _); (case side2 => exact Nat.le_refl _); (case side3 => exact Kd.C_nil _ _); (case side4 => exact Nat.le_refl _); rintro e w1 ⟨rfl, hb⟩; refine ⟨_, rfl, ?_⟩; replace HO := Aside0.mk (HO.out.step hb); clear HF; have HF := HO.out.facts; simp only [Owns.Facts, and_true] at HF) | (go_at_call 12; (with_reducible refine (castellanlaw19_known.calls  t127 _ A71.out).mono ?_); rintro e w1 ⟨rfl, hb⟩; replace HO := Aside0.mk (HO.out.step hb); clear HF; have HF := HO.out.facts; simp only [Owns.Facts, and_true] at HF))
                  go_ret
                  exact ⟨by first | rfl | (simp; done) | (simp [*]; done), HO.out.below⟩
                · rw [if_neg c70] at H
                  have c70b0 : (t126 == (!true)) = false := by simpa using c70
                  have c70n0 : (t126) = true := by simpa using c70b0
                  (try (have c70b1 : decide (t126 = (!true)) = false := by simpa using c70))
                  (try (have c70b2 : (t126 == (!true)) = false := by simpa using c70))
                  (try (have c70b3 : ¬ (t126 = (!true)) := by simpa using c70))
                  clear c70
                  exact absurd (H.trans (congrArg some HRT.out)) (by simp)
              · rw [if_neg c68] at H
                have c68b0 : ((a0 / 16777216) == 0) = false := beq_eq_false_iff_ne.mpr c68
                have c68b1 : ((a0 / 16777216) != 0) = true := bne_iff_ne.mpr c68
                replace H := Option.bind_eq_some_iff.mp H
                obtain ⟨t128, A760, H⟩ := H
                replace H : (if t128 = true then ((reply_May.f 0 0 false false 0 0 a1 a0 0 ([] : List Int) ([] : List Int) a2 0 0 0 a3 0 none).bind fun t129 => (if (t129 == (!true)) = true then ((castellanlaw19_known.f).bind fun t130 => (some t130)) else (some false))) else (if a1 = 1 then (if a2 = 1 then ((reply_May.f 0 0 false false 0 0 a1 a0 0 ([] : List Int) ([] : List Int) a2 0 0 0 a3 0 none).bind fun t131 => (if (t131 == (!true)) = true then ((castellanlaw19_known.f).bind fun t132 => (some t132)) else (some false))) else ((reply_May.f 0 0 false false 0 0 a1 a0 0 ([] : List Int) ([] : List Int) a2 0 0 0 a3 0 none).bind fun t133 => (if (t133 == (!true)) = true then ((castellanlaw19_known.f).bind fun t134 => (some t134)) else (some false)))) else ((reply_May.f 0 0 false false 0 0 a1 a0 0 ([] : List Int) ([] : List Int) a2 0 0 0 a3 0 none).bind fun t135 => (if (t135 == (!false)) = true then ((castellanlaw19_known.f).bind fun t136 => (some t136)) else (some false))))) = some r := H
                have A76 := Aside0.mk A760
                clear A760
                by_cases c77 : t128 = true
                · subst c77
                  have H1 : ((reply_May.f 0 0 false false 0 0 a1 a0 0 ([] : List Int) ([] : List Int) a2 0 0 0 a3 0 none).bind fun t129 => (if (t129 == (!true)) = true then ((castellanlaw19_known.f).bind fun t130 => (some t130)) else (some false))) = some r := by rw [if_pos rfl] at H; exact H
                  clear H
                  have H := H1
                  clear H1
                  replace H := Option.bind_eq_some_iff.mp H
                  obtain ⟨t129, A780, H⟩ := H
                  replace H : (if (t129 == (!true)) = true then ((castellanlaw19_known.f).bind fun t130 => (some t130)) else (some false)) = some r := H
                  have A78 := Aside0.mk A780
                  clear A780
                  by_cases c79 : (t129 == (!true)) = true
                  · rw [if_pos c79] at H
                    have c79b0 : (t129 == (!true)) = true := c79
                    have c79n0 : (t129) = false := by simpa using c79b0
                    (try (have c79b1 : decide (t129 = (!true)) = true := by simpa using c79))
                    (try (have c79b2 : (t129 == (!true)) = true := by simpa using c79))
                    clear c79
                    replace H := Option.bind_eq_some_iff.mp H
                    obtain ⟨t130, A800, H⟩ := H
                    replace H : (some t130) = some r := H
                    have A80 := Aside0.mk A800
                    clear A800
                    obtain rfl := Option.some.inj H
                    have HO := Aside0.mk (Owns.nil_of HB.out)
                    have HF : True := trivial
                    go_wp2_with (first | ((with_reducible refine gate_dst (N := 9) rfl ?_); refine ow_box HO rfl (N := 9) rfl #[.int .i64 0, .int .i64 0, .bool false, .bool false, .int .i64 0, .int .i64 0, .int .i64 0, .int .u32 0, .int .u32 0, .slice none 0 0, .slice none 0 0, .int .i64 0, .int .i64 0, .int .i64 0, .int .i64 0, .int .i64 0, .int .i64 0, .pointer none] 29 ?hr rfl ?_; (case hr => first | (go_simp; done) | (go_simp; rfl)); clear HO HF; intro g9 w1 HO; have HF := HO.out.facts; simp only [Owns.Facts, and_true] at HF) | ((with_reducible refine gate_store (p := 9) rfl ?_); (first | refine ow_put HO rfl rfl 0 rfl (ty := 29) rfl _ rfl rfl (by kernel_rfl) rfl rfl ?_); clear HO HF; intro w1 HO; simp only [List.set_cons_zero, List.set_cons_succ, List.setIfInBounds_toArray] at HO; have HF := HO.out.facts; simp only [Owns.Facts, and_true] at HF) | ((with_reducible refine gate_dst (N := 65) rfl ?_); (first | refine ow_load HO rfl 0 rfl 29 _ rfl _ rfl Try.underlying29 rfl (by kernel_rfl) ?_)) | (go_at_call 13; (with_reducible refine (castellanref3_Cast.calls a0 true _ A76.out).mono ?_); rintro e w1 ⟨rfl, hd⟩; replace HO := Aside0.mk (HO.out.drawn hd); clear HF; have HF := HO.out.facts; simp only [Owns.Facts, and_true] at HF) | ((with_reducible refine gate_callee (f := 14) rfl ?_); refine goesL_ (some 66) rfl rfl Try.func14 (by kernel_rfl) rfl #[.agg #[.int .i64 0, .int .i64 0, .bool false, .bool false, .int .i64 0, .int .i64 0, .int .i64 a1, .int .u32 a0, .int .u32 0, .slice none 0 0, .slice none 0 0, .int .i64 a2, .int .i64 0, .int .i64 0, .int .i64 0, .int .i64 a3, .int .i64 0, .pointer none]] rfl (by (try simp only [List.map_toArray, List.map_cons, List.map_nil]); first | done | rfl | (simp only [List.length_drop, List.length_take]; rfl)) ?_; (refine (reply_May.calls 0 0 false false 0 0 a1 a0 0 _ _ ([] : List Int) _ _ ([] : List Int) a2 0 0 0 a3 0 none t129 _ ?side1 ?side2 ?side3 ?side4 A78.out).mono ?_); (case side1 => exact Kd.C_nil _ _); (case side2 => exact Nat.le_refl _); (case side3 => exact Kd.C_nil _ _); (case side4 => exact Nat.le_refl _); rintro e w1 ⟨rfl, hb⟩; refine ⟨_, rfl, ?_⟩; replace HO := Aside0.mk (HO.out.step hb); clear HF; have HF := HO.out.facts; simp only [Owns.Facts, and_true] at HF) | (go_at_call 12; (with_reducible refine (castellanlaw19_known.calls  t130 _ A80.out).mono ?_); rintro e w1 ⟨rfl, hb⟩; replace HO := Aside0.mk (HO.out.step hb); clear HF; have HF := HO.out.facts; simp only [Owns.Facts, and_true] at HF))
                    go_ret
                    exact ⟨by first | rfl | (simp; done) | (simp [*]; done), HO.out.below⟩
                  · rw [if_neg c79] at H
                    have c79b0 : (t129 == (!true)) = false := by simpa using c79
                    have c79n0 : (t129) = true := by simpa using c79b0
                    (try (have c79b1 : decide (t129 = (!true)) = false := by simpa using c79))
                    (try (have c79b2 : (t129 == (!true)) = false := by simpa using c79))
                    (try (have c79b3 : ¬ (t129 = (!true)) := by simpa using c79))
                    clear c79
                    exact absurd (H.trans (congrArg some HRT.out)) (by simp)
                · replace c77 := Bool.eq_false_iff.mpr c77
                  subst c77
                  have H1 : (if a1 = 1 then (if a2 = 1 then ((reply_May.f 0 0 false false 0 0 a1 a0 0 ([] : List Int) ([] : List Int) a2 0 0 0 a3 0 none).bind fun t131 => (if (t131 == (!true)) = true then ((castellanlaw19_known.f).bind fun t132 => (some t132)) else (some false))) else ((reply_May.f 0 0 false false 0 0 a1 a0 0 ([] : List Int) ([] : List Int) a2 0 0 0 a3 0 none).bind fun t133 => (if (t133 == (!true)) = true then ((castellanlaw19_known.f).bind fun t134 => (some t134)) else (some false)))) else ((reply_May.f 0 0 false false 0 0 a1 a0 0 ([] : List Int) ([] : List Int) a2 0 0 0 a3 0 none).bind fun t135 => (if (t135 == (!false)) = true then ((castellanlaw19_known.f).bind fun t136 => (some t136)) else (some false)))) = some r := by rw [if_neg (show ¬ (false = true) by decide)] at H; exact H
                  clear H
                  have H := H1
                  clear H1
                  by_cases c85 : a1 = 1
                  · rw [if_pos c85] at H
                    have c85b0 : (a1 == 1) = true := beq_iff_eq.mpr c85
                    have c85b1 : (a1 != 1) = false := bne_eq_false_iff_eq.mpr c85
                    clear c85
                    by_cases c86 : a2 = 1
                    · rw [if_pos c86] at H
                      have c86b0 : (a2 == 1) = true := beq_iff_eq.mpr c86
                      have c86b1 : (a2 != 1) = false := bne_eq_false_iff_eq.mpr c86
                      clear c86
                      replace H := Option.bind_eq_some_iff.mp H
                      obtain ⟨t131, A870, H⟩ := H
                      replace H : (if (t131 == (!true)) = true then ((castellanlaw19_known.f).bind fun t132 => (some t132)) else (some false)) = some r := H
                      have A87 := Aside0.mk A870
                      clear A870
                      by_cases c88 : (t131 == (!true)) = true
                      · rw [if_pos c88] at H
                        have c88b0 : (t131 == (!true)) = true := c88
                        have c88n0 : (t131) = false := by simpa using c88b0
                        (try (have c88b1 : decide (t131 = (!true)) = true := by simpa using c88))
                        (try (have c88b2 : (t131 == (!true)) = true := by simpa using c88))
                        clear c88
                        replace H := Option.bind_eq_some_iff.mp H
                        obtain ⟨t132, A890, H⟩ := H
                        replace H : (some t132) = some r := H
                        have A89 := Aside0.mk A890
                        clear A890
                        obtain rfl := Option.some.inj H
                        have HO := Aside0.mk (Owns.nil_of HB.out)
                        have HF : True := trivial
                        go_wp2_with (first | ((with_reducible refine gate_dst (N := 9) rfl ?_); refine ow_box HO rfl (N := 9) rfl #[.int .i64 0, .int .i64 0, .bool false, .bool false, .int .i64 0, .int .i64 0, .int .i64 0, .int .u32 0, .int .u32 0, .slice none 0 0, .slice none 0 0, .int .i64 0, .int .i64 0, .int .i64 0, .int .i64 0, .int .i64 0, .int .i64 0, .pointer none] 29 ?hr rfl ?_; (case hr => first | (go_simp; done) | (go_simp; rfl)); clear HO HF; intro g9 w1 HO; have HF := HO.out.facts; simp only [Owns.Facts, and_true] at HF) | ((with_reducible refine gate_store (p := 9) rfl ?_); (first | refine ow_put HO rfl rfl 0 rfl (ty := 29) rfl _ rfl rfl (by kernel_rfl) rfl rfl ?_); clear HO HF; intro w1 HO; simp only [List.set_cons_zero, List.set_cons_succ, List.setIfInBounds_toArray] at HO; have HF := HO.out.facts; simp only [Owns.Facts, and_true] at HF) | ((with_reducible refine gate_dst (N := 65) rfl ?_); (first | refine ow_load HO rfl 0 rfl 29 _ rfl _ rfl Try.underlying29 rfl (by kernel_rfl) ?_)) | (go_at_call 13; (with_reducible refine (castellanref3_Cast.calls a0 false _ A76.out).mono ?_); rintro e w1 ⟨rfl, hd⟩; replace HO := Aside0.mk (HO.out.drawn hd); clear HF; have HF := HO.out.facts; simp only [Owns.Facts, and_true] at HF) | ((with_reducible refine gate_callee (f := 14) rfl ?_); refine goesL_ (some 66) rfl rfl Try.func14 (by kernel_rfl) rfl #[.agg #[.int .i64 0, .int .i64 0, .bool false, .bool false, .int .i64 0, .int .i64 0, .int .i64 a1, .int .u32 a0, .int .u32 0, .slice none 0 0, .slice none 0 0, .int .i64 a2, .int .i64 0, .int .i64 0, .int .i64 0, .int .i64 a3, .int .i64 0, .pointer none]] rfl (by (try simp only [List.map_toArray, List.map_cons, List.map_nil]); first | done | rfl | (simp only [List.length_drop, List.length_take]; rfl)) ?_; (refine (reply_May.calls 0 0 false false 0 0 a1 a0 0 _ _ ([] : List Int) _ _ ([] : List Int) a2 0 0 0 a3 0 none t131 _ ?side1 ?side2 ?side3 ?side4 A87.out).mono ?_); (case side1 => exact Kd.C_nil _ _); (case side2 => exact Nat.le_refl _); (case side3 => exact Kd.C_nil _ _); (case side4 => exact Nat.le_refl _); rintro e w1 ⟨rfl, hb⟩; refine ⟨_, rfl, ?_⟩; replace HO := Aside0.mk (HO.out.step hb); clear HF; have HF := HO.out.facts; simp only [Owns.Facts, and_true] at HF) | (go_at_call 12; (with_reducible refine (castellanlaw19_known.calls  t132 _ A89.out).mono ?_); rintro e w1 ⟨rfl, hb⟩; replace HO := Aside0.mk (HO.out.step hb); clear HF; have HF := HO.out.facts; simp only [Owns.Facts, and_true] at HF))
                        go_ret
                        exact ⟨by first | rfl | (simp; done) | (simp [*]; done), HO.out.below⟩
                      · rw [if_neg c88] at H
                        have c88b0 : (t131 == (!true)) = false := by simpa using c88
                        have c88n0 : (t131) = true := by simpa using c88b0
                        (try (have c88b1 : decide (t131 = (!true)) = false := by simpa using c88))
                        (try (have c88b2 : (t131 == (!true)) = false := by simpa using c88))
                        (try (have c88b3 : ¬ (t131 = (!true)) := by simpa using c88))
                        clear c88
                        exact absurd (H.trans (congrArg some HRT.out)) (by simp)
                    · rw [if_neg c86] at H
                      have c86b0 : (a2 == 1) = false := beq_eq_false_iff_ne.mpr c86
                      have c86b1 : (a2 != 1) = true := bne_iff_ne.mpr c86
                      replace H := Option.bind_eq_some_iff.mp H
                      obtain ⟨t133, A940, H⟩ := H
                      replace H : (if (t133 == (!true)) = true then ((castellanlaw19_known.f).bind fun t134 => (some t134)) else (some false)) = some r := H
                      have A94 := Aside0.mk A940
                      clear A940
                      by_cases c95 : (t133 == (!true)) = true
                      · rw [if_pos c95] at H
                        have c95b0 : (t133 == (!true)) = true := c95
                        have c95n0 : (t133) = false := by simpa using c95b0
                        (try (have c95b1 : decide (t133 = (!true)) = true := by simpa using c95))
                        (try (have c95b2 : (t133 == (!true)) = true := by simpa using c95))
                        clear c95
                        replace H := Option.bind_eq_some_iff.mp H
                        obtain ⟨t134, A960, H⟩ := H
                        replace H : (some t134) = some r := H
                        have A96 := Aside0.mk A960
                        clear A960
                        obtain rfl := Option.some.inj H
                        have HO := Aside0.mk (Owns.nil_of HB.out)
                        have HF : True := trivial
                        go_wp2_with (first | ((with_reducible refine gate_dst (N := 9) rfl ?_); refine ow_box HO rfl (N := 9) rfl #[.int .i64 0, .int .i64 0, .bool false, .bool false, .int .i64 0, .int .i64 0, .int .i64 0, .int .u32 0, .int .u32 0, .slice none 0 0, .slice none 0 0, .int .i64 0, .int .i64 0, .int .i64 0, .int .i64 0, .int .i64 0, .int .i64 0, .pointer none] 29 ?hr rfl ?_; (case hr => first | (go_simp; done) | (go_simp; rfl)); clear HO HF; intro g9 w1 HO; have HF := HO.out.facts; simp only [Owns.Facts, and_true] at HF) | ((with_reducible refine gate_store (p := 9) rfl ?_); (first | refine ow_put HO rfl rfl 0 rfl (ty := 29) rfl _ rfl rfl (by kernel_rfl) rfl rfl ?_); clear HO HF; intro w1 HO; simp only [List.set_cons_zero, List.set_cons_succ, List.setIfInBounds_toArray] at HO; have HF := HO.out.facts; simp only [Owns.Facts, and_true] at HF) | ((with_reducible refine gate_dst (N := 65) rfl ?_); (first | refine ow_load HO rfl 0 rfl 29 _ rfl _ rfl Try.underlying29 rfl (by kernel_rfl) ?_)) | (go_at_call 13; (with_reducible refine (castellanref3_Cast.calls a0 false _ A76.out).mono ?_); rintro e w1 ⟨rfl, hd⟩; replace HO := Aside0.mk (HO.out.drawn hd); clear HF; have HF := HO.out.facts; simp only [Owns.Facts, and_true] at HF) | ((with_reducible refine gate_callee (f := 14) rfl ?_); refine goesL_ (some 66) rfl rfl Try.func14 (by kernel_rfl) rfl #[.agg #[.int .i64 0, .int .i64 0, .bool false, .bool false, .int .i64 0, .int .i64 0, .int .i64 a1, .int .u32 a0, .int .u32 0, .slice none 0 0, .slice none 0 0, .int .i64 a2, .int .i64 0, .int .i64 0, .int .i64 0, .int .i64 a3, .int .i64 0, .pointer none]] rfl (by (try simp only [List.map_toArray, List.map_cons, List.map_nil]); first | done | rfl | (simp only [List.length_drop, List.length_take]; rfl)) ?_; (refine (reply_May.calls 0 0 false false 0 0 a1 a0 0 _ _ ([] : List Int) _ _ ([] : List Int) a2 0 0 0 a3 0 none t133 _ ?side1 ?side2 ?side3 ?side4 A94.out).mono ?_); (case side1 => exact Kd.C_nil _ _); (case side2 => exact Nat.le_refl _); (case side3 => exact Kd.C_nil _ _); (case side4 => exact Nat.le_refl _); rintro e w1 ⟨rfl, hb⟩; refine ⟨_, rfl, ?_⟩; replace HO := Aside0.mk (HO.out.step hb); clear HF; have HF := HO.out.facts; simp only [Owns.Facts, and_true] at HF) | (go_at_call 12; (with_reducible refine (castellanlaw19_known.calls  t134 _ A96.out).mono ?_); rintro e w1 ⟨rfl, hb⟩; replace HO := Aside0.mk (HO.out.step hb); clear HF; have HF := HO.out.facts; simp only [Owns.Facts, and_true] at HF))
                        go_ret
                        exact ⟨by first | rfl | (simp; done) | (simp [*]; done), HO.out.below⟩
                      · rw [if_neg c95] at H
                        have c95b0 : (t133 == (!true)) = false := by simpa using c95
                        have c95n0 : (t133) = true := by simpa using c95b0
                        (try (have c95b1 : decide (t133 = (!true)) = false := by simpa using c95))
                        (try (have c95b2 : (t133 == (!true)) = false := by simpa using c95))
                        (try (have c95b3 : ¬ (t133 = (!true)) := by simpa using c95))
                        clear c95
                        exact absurd (H.trans (congrArg some HRT.out)) (by simp)
                  · rw [if_neg c85] at H
                    have c85b0 : (a1 == 1) = false := beq_eq_false_iff_ne.mpr c85
                    have c85b1 : (a1 != 1) = true := bne_iff_ne.mpr c85
                    replace H := Option.bind_eq_some_iff.mp H
                    obtain ⟨t135, A1010, H⟩ := H
                    replace H : (if (t135 == (!false)) = true then ((castellanlaw19_known.f).bind fun t136 => (some t136)) else (some false)) = some r := H
                    have A101 := Aside0.mk A1010
                    clear A1010
                    by_cases c102 : (t135 == (!false)) = true
                    · rw [if_pos c102] at H
                      have c102b0 : (t135 == (!false)) = true := c102
                      have c102n0 : (t135) = true := by simpa using c102b0
                      (try (have c102b1 : decide (t135 = (!false)) = true := by simpa using c102))
                      (try (have c102b2 : (t135 == (!false)) = true := by simpa using c102))
                      clear c102
                      replace H := Option.bind_eq_some_iff.mp H
                      obtain ⟨t136, A1030, H⟩ := H
                      replace H : (some t136) = some r := H
                      have A103 := Aside0.mk A1030
                      clear A1030
                      obtain rfl := Option.some.inj H
                      have HO := Aside0.mk (Owns.nil_of HB.out)
                      have HF : True := trivial
                      go_wp2_with (first | ((with_reducible refine gate_dst (N := 9) rfl ?_); refine ow_box HO rfl (N := 9) rfl #[.int .i64 0, .int .i64 0, .bool false, .bool false, .int .i64 0, .int .i64 0, .int .i64 0, .int .u32 0, .int .u32 0, .slice none 0 0, .slice none 0 0, .int .i64 0, .int .i64 0, .int .i64 0, .int .i64 0, .int .i64 0, .int .i64 0, .pointer none] 29 ?hr rfl ?_; (case hr => first | (go_simp; done) | (go_simp; rfl)); clear HO HF; intro g9 w1 HO; have HF := HO.out.facts; simp only [Owns.Facts, and_true] at HF) | ((with_reducible refine gate_store (p := 9) rfl ?_); (first | refine ow_put HO rfl rfl 0 rfl (ty := 29) rfl _ rfl rfl (by kernel_rfl) rfl rfl ?_); clear HO HF; intro w1 HO; simp only [List.set_cons_zero, List.set_cons_succ, List.setIfInBounds_toArray] at HO; have HF := HO.out.facts; simp only [Owns.Facts, and_true] at HF) | ((with_reducible refine gate_dst (N := 65) rfl ?_); (first | refine ow_load HO rfl 0 rfl 29 _ rfl _ rfl Try.underlying29 rfl (by kernel_rfl) ?_)) | (go_at_call 13; (with_reducible refine (castellanref3_Cast.calls a0 false _ A76.out).mono ?_); rintro e w1 ⟨rfl, hd⟩; replace HO := Aside0.mk (HO.out.drawn hd); clear HF; have HF := HO.out.facts; simp only [Owns.Facts, and_true] at HF) | ((with_reducible refine gate_callee (f := 14) rfl ?_); refine goesL_ (some 66) rfl rfl Try.func14 (by kernel_rfl) rfl #[.agg #[.int .i64 0, .int .i64 0, .bool false, .bool false, .int .i64 0, .int .i64 0, .int .i64 a1, .int .u32 a0, .int .u32 0, .slice none 0 0, .slice none 0 0, .int .i64 a2, .int .i64 0, .int .i64 0, .int .i64 0, .int .i64 a3, .int .i64 0, .pointer none]] rfl (by (try simp only [List.map_toArray, List.map_cons, List.map_nil]); first | done | rfl | (simp only [List.length_drop, List.length_take]; rfl)) ?_; (refine (reply_May.calls 0 0 false false 0 0 a1 a0 0 _ _ ([] : List Int) _ _ ([] : List Int) a2 0 0 0 a3 0 none t135 _ ?side1 ?side2 ?side3 ?side4 A101.out).mono ?_); (case side1 => exact Kd.C_nil _ _); (case side2 => exact Nat.le_refl _); (case side3 => exact Kd.C_nil _ _); (case side4 => exact Nat.le_refl _); rintro e w1 ⟨rfl, hb⟩; refine ⟨_, rfl, ?_⟩; replace HO := Aside0.mk (HO.out.step hb); clear HF; have HF := HO.out.facts; simp only [Owns.Facts, and_true] at HF) | (go_at_call 12; (with_reducible refine (castellanlaw19_known.calls  t136 _ A103.out).mono ?_); rintro e w1 ⟨rfl, hb⟩; replace HO := Aside0.mk (HO.out.step hb); clear HF; have HF := HO.out.facts; simp only [Owns.Facts, and_true] at HF))
                      go_ret
                      exact ⟨by first | rfl | (simp; done) | (simp [*]; done), HO.out.below⟩
                    · rw [if_neg c102] at H
                      have c102b0 : (t135 == (!false)) = false := by simpa using c102
                      have c102n0 : (t135) = false := by simpa using c102b0
                      (try (have c102b1 : decide (t135 = (!false)) = false := by simpa using c102))
                      (try (have c102b2 : (t135 == (!false)) = false := by simpa using c102))
                      (try (have c102b3 : ¬ (t135 = (!false)) := by simpa using c102))
                      clear c102
                      exact absurd (H.trans (congrArg some HRT.out)) (by simp)
          · rw [if_neg c59] at H
            have c59b0 : (a3 == 4) = false := beq_eq_false_iff_ne.mpr c59
            have c59b1 : (a3 != 4) = true := bne_iff_ne.mpr c59
            by_cases c108 : a3 = 5
            · rw [if_pos c108] at H
              have c108b0 : (a3 == 5) = true := beq_iff_eq.mpr c108
              have c108b1 : (a3 != 5) = false := bne_eq_false_iff_eq.mpr c108
              clear c108
              by_cases c109 : a2 = 2
              · rw [if_pos c109] at H
                have c109b0 : (a2 == 2) = true := beq_iff_eq.mpr c109
                have c109b1 : (a2 != 2) = false := bne_eq_false_iff_eq.mpr c109
                clear c109
                replace H := Option.bind_eq_some_iff.mp H
                obtain ⟨t137, A1100, H⟩ := H
                replace H : (if (t137 == (!true)) = true then ((castellanlaw19_known.f).bind fun t138 => (some t138)) else (some false)) = some r := H
                have A110 := Aside0.mk A1100
                clear A1100
                by_cases c111 : (t137 == (!true)) = true
                · rw [if_pos c111] at H
                  have c111b0 : (t137 == (!true)) = true := c111
                  have c111n0 : (t137) = false := by simpa using c111b0
                  (try (have c111b1 : decide (t137 = (!true)) = true := by simpa using c111))
                  (try (have c111b2 : (t137 == (!true)) = true := by simpa using c111))
                  clear c111
                  replace H := Option.bind_eq_some_iff.mp H
                  obtain ⟨t138, A1120, H⟩ := H
                  replace H : (some t138) = some r := H
                  have A112 := Aside0.mk A1120
                  clear A1120
                  obtain rfl := Option.some.inj H
                  have HO := Aside0.mk (Owns.nil_of HB.out)
                  have HF : True := trivial
                  go_wp2_with (first | ((with_reducible refine gate_dst (N := 9) rfl ?_); refine ow_box HO rfl (N := 9) rfl #[.int .i64 0, .int .i64 0, .bool false, .bool false, .int .i64 0, .int .i64 0, .int .i64 0, .int .u32 0, .int .u32 0, .slice none 0 0, .slice none 0 0, .int .i64 0, .int .i64 0, .int .i64 0, .int .i64 0, .int .i64 0, .int .i64 0, .pointer none] 29 ?hr rfl ?_; (case hr => first | (go_simp; done) | (go_simp; rfl)); clear HO HF; intro g9 w1 HO; have HF := HO.out.facts; simp only [Owns.Facts, and_true] at HF) | ((with_reducible refine gate_store (p := 9) rfl ?_); (first | refine ow_put HO rfl rfl 0 rfl (ty := 29) rfl _ rfl rfl (by kernel_rfl) rfl rfl ?_); clear HO HF; intro w1 HO; simp only [List.set_cons_zero, List.set_cons_succ, List.setIfInBounds_toArray] at HO; have HF := HO.out.facts; simp only [Owns.Facts, and_true] at HF) | ((with_reducible refine gate_dst (N := 65) rfl ?_); (first | refine ow_load HO rfl 0 rfl 29 _ rfl _ rfl Try.underlying29 rfl (by kernel_rfl) ?_)) | ((with_reducible refine gate_callee (f := 14) rfl ?_); refine goesL_ (some 66) rfl rfl Try.func14 (by kernel_rfl) rfl #[.agg #[.int .i64 0, .int .i64 0, .bool false, .bool false, .int .i64 0, .int .i64 0, .int .i64 a1, .int .u32 a0, .int .u32 0, .slice none 0 0, .slice none 0 0, .int .i64 a2, .int .i64 0, .int .i64 0, .int .i64 0, .int .i64 a3, .int .i64 0, .pointer none]] rfl (by (try simp only [List.map_toArray, List.map_cons, List.map_nil]); first | done | rfl | (simp only [List.length_drop, List.length_take]; rfl)) ?_; (refine (reply_May.calls 0 0 false false 0 0 a1 a0 0 _ _ ([] : List Int) _ _ ([] : List Int) a2 0 0 0 a3 0 none t137 _ ?side1 ?side2 ?side3 ?side4 A110.out).mono ?_); (case side1 => exact Kd.C_nil _ _); (case side2 => exact Nat.le_refl _); (case side3 => exact Kd.C_nil _ _); (case side4 => exact Nat.le_refl _); rintro e w1 ⟨rfl, hb⟩; refine ⟨_, rfl, ?_⟩; replace HO := Aside0.mk (HO.out.step hb); clear HF; have HF := HO.out.facts; simp only [Owns.Facts, and_true] at HF) | (go_at_call 12; (with_reducible refine (castellanlaw19_known.calls  t138 _ A112.out).mono ?_); rintro e w1 ⟨rfl, hb⟩; replace HO := Aside0.mk (HO.out.step hb); clear HF; have HF := HO.out.facts; simp only [Owns.Facts, and_true] at HF))
                  go_ret
                  exact ⟨by first | rfl | (simp; done) | (simp [*]; done), HO.out.below⟩
                · rw [if_neg c111] at H
                  have c111b0 : (t137 == (!true)) = false := by simpa using c111
                  have c111n0 : (t137) = true := by simpa using c111b0
                  (try (have c111b1 : decide (t137 = (!true)) = false := by simpa using c111))
                  (try (have c111b2 : (t137 == (!true)) = false := by simpa using c111))
                  (try (have c111b3 : ¬ (t137 = (!true)) := by simpa using c111))
                  clear c111
                  exact absurd (H.trans (congrArg some HRT.out)) (by simp)
              · rw [if_neg c109] at H
                have c109b0 : (a2 == 2) = false := beq_eq_false_iff_ne.mpr c109
                have c109b1 : (a2 != 2) = true := bne_iff_ne.mpr c109
                by_cases c117 : (a0 / 16777216) = 0
                · rw [if_pos c117] at H
                  have c117b0 : ((a0 / 16777216) == 0) = true := beq_iff_eq.mpr c117
                  have c117b1 : ((a0 / 16777216) != 0) = false := bne_eq_false_iff_eq.mpr c117
                  clear c117
                  replace H := Option.bind_eq_some_iff.mp H
                  obtain ⟨t139, A1180, H⟩ := H
                  replace H : (if (t139 == (!true)) = true then ((castellanlaw19_known.f).bind fun t140 => (some t140)) else (some false)) = some r := H
                  have A118 := Aside0.mk A1180
                  clear A1180
                  by_cases c119 : (t139 == (!true)) = true
                  · rw [if_pos c119] at H
                    have c119b0 : (t139 == (!true)) = true := c119
                    have c119n0 : (t139) = false := by simpa using c119b0
                    (try (have c119b1 : decide (t139 = (!true)) = true := by simpa using c119))
                    (try (have c119b2 : (t139 == (!true)) = true := by simpa using c119))
                    clear c119
                    replace H := Option.bind_eq_some_iff.mp H
                    obtain ⟨t140, A1200, H⟩ := H
                    replace H : (some t140) = some r := H
                    have A120 := Aside0.mk A1200
                    clear A1200
                    obtain rfl := Option.some.inj H
                    have HO := Aside0.mk (Owns.nil_of HB.out)
                    have HF : True := trivial
                    go_wp2_with (first | ((with_reducible refine gate_dst (N := 9) rfl ?_); refine ow_box HO rfl (N := 9) rfl #[.int .i64 0, .int .i64 0, .bool false, .bool false, .int .i64 0, .int .i64 0, .int .i64 0, .int .u32 0, .int .u32 0, .slice none 0 0, .slice none 0 0, .int .i64 0, .int .i64 0, .int .i64 0, .int .i64 0, .int .i64 0, .int .i64 0, .pointer none] 29 ?hr rfl ?_; (case hr => first | (go_simp; done) | (go_simp; rfl)); clear HO HF; intro g9 w1 HO; have HF := HO.out.facts; simp only [Owns.Facts, and_true] at HF) | ((with_reducible refine gate_store (p := 9) rfl ?_); (first | refine ow_put HO rfl rfl 0 rfl (ty := 29) rfl _ rfl rfl (by kernel_rfl) rfl rfl ?_); clear HO HF; intro w1 HO; simp only [List.set_cons_zero, List.set_cons_succ, List.setIfInBounds_toArray] at HO; have HF := HO.out.facts; simp only [Owns.Facts, and_true] at HF) | ((with_reducible refine gate_dst (N := 65) rfl ?_); (first | refine ow_load HO rfl 0 rfl 29 _ rfl _ rfl Try.underlying29 rfl (by kernel_rfl) ?_)) | ((with_reducible refine gate_callee (f := 14) rfl ?_); refine goesL_ (some 66) rfl rfl Try.func14 (by kernel_rfl) rfl #[.agg #[.int .i64 0, .int .i64 0, .bool false, .bool false, .int .i64 0, .int .i64 0, .int .i64 a1, .int .u32 a0, .int .u32 0, .slice none 0 0, .slice none 0 0, .int .i64 a2, .int .i64 0, .int .i64 0, .int .i64 0, .int .i64 a3, .int .i64 0, .pointer none]] rfl (by (try simp only [List.map_toArray, List.map_cons, List.map_nil]); first | done | rfl | (simp only [List.length_drop, List.length_take]; rfl)) ?_; (refine (reply_May.calls 0 0 false false 0 0 a1 a0 0 _ _ ([] : List Int) _ _ ([] : List Int) a2 0 0 0 a3 0 none t139 _ ?side1 ?side2 ?side3 ?side4 A118.out).mono ?_); (case side1 => exact Kd.C_nil _ _); (case side2 => exact Nat.le_refl _); (case side3 => exact Kd.C_nil _ _); (case side4 => exact Nat.le_refl _); rintro e w1 ⟨rfl, hb⟩; refine ⟨_, rfl, ?_⟩; replace HO := Aside0.mk (HO.out.step hb); clear HF; have HF := HO.out.facts; simp only [Owns.Facts, and_true] at HF) | (go_at_call 12; (with_reducible refine (castellanlaw19_known.calls  t140 _ A120.out).mono ?_); rintro e w1 ⟨rfl, hb⟩; replace HO := Aside0.mk (HO.out.step hb); clear HF; have HF := HO.out.facts; simp only [Owns.Facts, and_true] at HF))
                    go_ret
                    exact ⟨by first | rfl | (simp; done) | (simp [*]; done), HO.out.below⟩
                  · rw [if_neg c119] at H
                    have c119b0 : (t139 == (!true)) = false := by simpa using c119
                    have c119n0 : (t139) = true := by simpa using c119b0
                    (try (have c119b1 : decide (t139 = (!true)) = false := by simpa using c119))
                    (try (have c119b2 : (t139 == (!true)) = false := by simpa using c119))
                    (try (have c119b3 : ¬ (t139 = (!true)) := by simpa using c119))
                    clear c119
                    exact absurd (H.trans (congrArg some HRT.out)) (by simp)
                · rw [if_neg c117] at H
                  have c117b0 : ((a0 / 16777216) == 0) = false := beq_eq_false_iff_ne.mpr c117
                  have c117b1 : ((a0 / 16777216) != 0) = true := bne_iff_ne.mpr c117
                  replace H := Option.bind_eq_some_iff.mp H
                  obtain ⟨t141, A1250, H⟩ := H
                  replace H : (if t141 = true then ((reply_May.f 0 0 false false 0 0 a1 a0 0 ([] : List Int) ([] : List Int) a2 0 0 0 a3 0 none).bind fun t142 => (if (t142 == (!true)) = true then ((castellanlaw19_known.f).bind fun t143 => (some t143)) else (some false))) else (if a1 = 1 then (if a2 = 1 then ((reply_May.f 0 0 false false 0 0 a1 a0 0 ([] : List Int) ([] : List Int) a2 0 0 0 a3 0 none).bind fun t144 => (if (t144 == (!true)) = true then ((castellanlaw19_known.f).bind fun t145 => (some t145)) else (some false))) else ((reply_May.f 0 0 false false 0 0 a1 a0 0 ([] : List Int) ([] : List Int) a2 0 0 0 a3 0 none).bind fun t146 => (if (t146 == (!true)) = true then ((castellanlaw19_known.f).bind fun t147 => (some t147)) else (some false)))) else ((reply_May.f 0 0 false false 0 0 a1 a0 0 ([] : List Int) ([] : List Int) a2 0 0 0 a3 0 none).bind fun t148 => (if (t148 == (!false)) = true then ((castellanlaw19_known.f).bind fun t149 => (some t149)) else (some false))))) = some r := H
                  have A125 := Aside0.mk A1250
                  clear A1250
                  by_cases c126 : t141 = true
                  · subst c126
                    have H1 : ((reply_May.f 0 0 false false 0 0 a1 a0 0 ([] : List Int) ([] : List Int) a2 0 0 0 a3 0 none).bind fun t142 => (if (t142 == (!true)) = true then ((castellanlaw19_known.f).bind fun t143 => (some t143)) else (some false))) = some r := by rw [if_pos rfl] at H; exact H
                    clear H
                    have H := H1
                    clear H1
                    replace H := Option.bind_eq_some_iff.mp H
                    obtain ⟨t142, A1270, H⟩ := H
                    replace H : (if (t142 == (!true)) = true then ((castellanlaw19_known.f).bind fun t143 => (some t143)) else (some false)) = some r := H
                    have A127 := Aside0.mk A1270
                    clear A1270
                    by_cases c128 : (t142 == (!true)) = true
                    · rw [if_pos c128] at H
                      have c128b0 : (t142 == (!true)) = true := c128
                      have c128n0 : (t142) = false := by simpa using c128b0
                      (try (have c128b1 : decide (t142 = (!true)) = true := by simpa using c128))
                      (try (have c128b2 : (t142 == (!true)) = true := by simpa using c128))
                      clear c128
                      replace H := Option.bind_eq_some_iff.mp H
                      obtain ⟨t143, A1290, H⟩ := H
                      replace H : (some t143) = some r := H
                      have A129 := Aside0.mk A1290
                      clear A1290
                      obtain rfl := Option.some.inj H
                      have HO := Aside0.mk (Owns.nil_of HB.out)
                      have HF : True := trivial
                      go_wp2_with (first | ((with_reducible refine gate_dst (N := 9) rfl ?_); refine ow_box HO rfl (N := 9) rfl #[.int .i64 0, .int .i64 0, .bool false, .bool false, .int .i64 0, .int .i64 0, .int .i64 0, .int .u32 0, .int .u32 0, .slice none 0 0, .slice none 0 0, .int .i64 0, .int .i64 0, .int .i64 0, .int .i64 0, .int .i64 0, .int .i64 0, .pointer none] 29 ?hr rfl ?_; (case hr => first | (go_simp; done) | (go_simp; rfl)); clear HO HF; intro g9 w1 HO; have HF := HO.out.facts; simp only [Owns.Facts, and_true] at HF) | ((with_reducible refine gate_store (p := 9) rfl ?_); (first | refine ow_put HO rfl rfl 0 rfl (ty := 29) rfl _ rfl rfl (by kernel_rfl) rfl rfl ?_); clear HO HF; intro w1 HO; simp only [List.set_cons_zero, List.set_cons_succ, List.setIfInBounds_toArray] at HO; have HF := HO.out.facts; simp only [Owns.Facts, and_true] at HF) | ((with_reducible refine gate_dst (N := 65) rfl ?_); (first | refine ow_load HO rfl 0 rfl 29 _ rfl _ rfl Try.underlying29 rfl (by kernel_rfl) ?_)) | (go_at_call 13; (with_reducible refine (castellanref3_Cast.calls a0 true _ A125.out).mono ?_); rintro e w1 ⟨rfl, hd⟩; replace HO := Aside0.mk (HO.out.drawn hd); clear HF; have HF := HO.out.facts; simp only [Owns.Facts, and_true] at HF) | ((with_reducible refine gate_callee (f := 14) rfl ?_); refine goesL_ (some 66) rfl rfl Try.func14 (by kernel_rfl) rfl #[.agg #[.int .i64 0, .int .i64 0, .bool false, .bool false, .int .i64 0, .int .i64 0, .int .i64 a1, .int .u32 a0, .int .u32 0, .slice none 0 0, .slice none 0 0, .int .i64 a2, .int .i64 0, .int .i64 0, .int .i64 0, .int .i64 a3, .int .i64 0, .pointer none]] rfl (by (try simp only [List.map_toArray, List.map_cons, List.map_nil]); first | done | rfl | (simp only [List.length_drop, List.length_take]; rfl)) ?_; (refine (reply_May.calls 0 0 false false 0 0 a1 a0 0 _ _ ([] : List Int) _ _ ([] : List Int) a2 0 0 0 a3 0 none t142 _ ?side1 ?side2 ?side3 ?side4 A127.out).mono ?_); (case side1 => exact Kd.C_nil _ _); (case side2 => exact Nat.le_refl _); (case side3 => exact Kd.C_nil _ _); (case side4 => exact Nat.le_refl _); rintro e w1 ⟨rfl, hb⟩; refine ⟨_, rfl, ?_⟩; replace HO := Aside0.mk (HO.out.step hb); clear HF; have HF := HO.out.facts; simp only [Owns.Facts, and_true] at HF) | (go_at_call 12; (with_reducible refine (castellanlaw19_known.calls  t143 _ A129.out).mono ?_); rintro e w1 ⟨rfl, hb⟩; replace HO := Aside0.mk (HO.out.step hb); clear HF; have HF := HO.out.facts; simp only [Owns.Facts, and_true] at HF))
                      go_ret
                      exact ⟨by first | rfl | (simp; done) | (simp [*]; done), HO.out.below⟩
                    · rw [if_neg c128] at H
                      have c128b0 : (t142 == (!true)) = false := by simpa using c128
                      have c128n0 : (t142) = true := by simpa using c128b0
                      (try (have c128b1 : decide (t142 = (!true)) = false := by simpa using c128))
                      (try (have c128b2 : (t142 == (!true)) = false := by simpa using c128))
                      (try (have c128b3 : ¬ (t142 = (!true)) := by simpa using c128))
                      clear c128
                      exact absurd (H.trans (congrArg some HRT.out)) (by simp)
                  · replace c126 := Bool.eq_false_iff.mpr c126
                    subst c126
                    have H1 : (if a1 = 1 then (if a2 = 1 then ((reply_May.f 0 0 false false 0 0 a1 a0 0 ([] : List Int) ([] : List Int) a2 0 0 0 a3 0 none).bind fun t144 => (if (t144 == (!true)) = true then ((castellanlaw19_known.f).bind fun t145 => (some t145)) else (some false))) else ((reply_May.f 0 0 false false 0 0 a1 a0 0 ([] : List Int) ([] : List Int) a2 0 0 0 a3 0 none).bind fun t146 => (if (t146 == (!true)) = true then ((castellanlaw19_known.f).bind fun t147 => (some t147)) else (some false)))) else ((reply_May.f 0 0 false false 0 0 a1 a0 0 ([] : List Int) ([] : List Int) a2 0 0 0 a3 0 none).bind fun t148 => (if (t148 == (!false)) = true then ((castellanlaw19_known.f).bind fun t149 => (some t149)) else (some false)))) = some r := by rw [if_neg (show ¬ (false = true) by decide)] at H; exact H
                    clear H
                    have H := H1
                    clear H1
                    by_cases c134 : a1 = 1
                    · rw [if_pos c134] at H
                      have c134b0 : (a1 == 1) = true := beq_iff_eq.mpr c134
                      have c134b1 : (a1 != 1) = false := bne_eq_false_iff_eq.mpr c134
                      clear c134
                      by_cases c135 : a2 = 1
                      · rw [if_pos c135] at H
                        have c135b0 : (a2 == 1) = true := beq_iff_eq.mpr c135
                        have c135b1 : (a2 != 1) = false := bne_eq_false_iff_eq.mpr c135
                        clear c135
                        replace H := Option.bind_eq_some_iff.mp H
                        obtain ⟨t144, A1360, H⟩ := H
                        replace H : (if (t144 == (!true)) = true then ((castellanlaw19_known.f).bind fun t145 => (some t145)) else (some false)) = some r := H
                        have A136 := Aside0.mk A1360
                        clear A1360
                        by_cases c137 : (t144 == (!true)) = true
                        · rw [if_pos c137] at H
                          have c137b0 : (t144 == (!true)) = true := c137
                          have c137n0 : (t144) = false := by simpa using c137b0
                          (try (have c137b1 : decide (t144 = (!true)) = true := by simpa using c137))
                          (try (have c137b2 : (t144 == (!true)) = true := by simpa using c137))
                          clear c137
                          replace H := Option.bind_eq_some_iff.mp H
                          obtain ⟨t145, A1380, H⟩ := H
                          replace H : (some t145) = some r := H
                          have A138 := Aside0.mk A1380
                          clear A1380
                          obtain rfl := Option.some.inj H
                          have HO := Aside0.mk (Owns.nil_of HB.out)
                          have HF : True := trivial
                          go_wp2_with (first | ((with_reducible refine gate_dst (N := 9) rfl ?_); refine ow_box HO rfl (N := 9) rfl #[.int .i64 0, .int .i64 0, .bool false, .bool false, .int .i64 0, .int .i64 0, .int .i64 0, .int .u32 0, .int .u32 0, .slice none 0 0, .slice none 0 0, .int .i64 0, .int .i64 0, .int .i64 0, .int .i64 0, .int .i64 0, .int .i64 0, .pointer none] 29 ?hr rfl ?_; (case hr => first | (go_simp; done) | (go_simp; rfl)); clear HO HF; intro g9 w1 HO; have HF := HO.out.facts; simp only [Owns.Facts, and_true] at HF) | ((with_reducible refine gate_store (p := 9) rfl ?_); (first | refine ow_put HO rfl rfl 0 rfl (ty := 29) rfl _ rfl rfl (by kernel_rfl) rfl rfl ?_); clear HO HF; intro w1 HO; simp only [List.set_cons_zero, List.set_cons_succ, List.setIfInBounds_toArray] at HO; have HF := HO.out.facts; simp only [Owns.Facts, and_true] at HF) | ((with_reducible refine gate_dst (N := 65) rfl ?_); (first | refine ow_load HO rfl 0 rfl 29 _ rfl _ rfl Try.underlying29 rfl (by kernel_rfl) ?_)) | (go_at_call 13; (with_reducible refine (castellanref3_Cast.calls a0 false _ A125.out).mono ?_); rintro e w1 ⟨rfl, hd⟩; replace HO := Aside0.mk (HO.out.drawn hd); clear HF; have HF := HO.out.facts; simp only [Owns.Facts, and_true] at HF) | ((with_reducible refine gate_callee (f := 14) rfl ?_); refine goesL_ (some 66) rfl rfl Try.func14 (by kernel_rfl) rfl #[.agg #[.int .i64 0, .int .i64 0, .bool false, .bool false, .int .i64 0, .int .i64 0, .int .i64 a1, .int .u32 a0, .int .u32 0, .slice none 0 0, .slice none 0 0, .int .i64 a2, .int .i64 0, .int .i64 0, .int .i64 0, .int .i64 a3, .int .i64 0, .pointer none]] rfl (by (try simp only [List.map_toArray, List.map_cons, List.map_nil]); first | done | rfl | (simp only [List.length_drop, List.length_take]; rfl)) ?_; (refine (reply_May.calls 0 0 false false 0 0 a1 a0 0 _ _ ([] : List Int) _ _ ([] : List Int) a2 0 0 0 a3 0 none t144 _ ?side1 ?side2 ?side3 ?side4 A136.out).mono ?_); (case side1 => exact Kd.C_nil _ _); (case side2 => exact Nat.le_refl _); (case side3 => exact Kd.C_nil _ _); (case side4 => exact Nat.le_refl _); rintro e w1 ⟨rfl, hb⟩; refine ⟨_, rfl, ?_⟩; replace HO := Aside0.mk (HO.out.step hb); clear HF; have HF := HO.out.facts; simp only [Owns.Facts, and_true] at HF) | (go_at_call 12; (with_reducible refine (castellanlaw19_known.calls  t145 _ A138.out).mono ?_); rintro e w1 ⟨rfl, hb⟩; replace HO := Aside0.mk (HO.out.step hb); clear HF; have HF := HO.out.facts; simp only [Owns.Facts, and_true] at HF))
                          go_ret
                          exact ⟨by first | rfl | (simp; done) | (simp [*]; done), HO.out.below⟩
                        · rw [if_neg c137] at H
                          have c137b0 : (t144 == (!true)) = false := by simpa using c137
                          have c137n0 : (t144) = true := by simpa using c137b0
                          (try (have c137b1 : decide (t144 = (!true)) = false := by simpa using c137))
                          (try (have c137b2 : (t144 == (!true)) = false := by simpa using c137))
                          (try (have c137b3 : ¬ (t144 = (!true)) := by simpa using c137))
                          clear c137
                          exact absurd (H.trans (congrArg some HRT.out)) (by simp)
                      · rw [if_neg c135] at H
                        have c135b0 : (a2 == 1) = false := beq_eq_false_iff_ne.mpr c135
                        have c135b1 : (a2 != 1) = true := bne_iff_ne.mpr c135
                        replace H := Option.bind_eq_some_iff.mp H
                        obtain ⟨t146, A1430, H⟩ := H
                        replace H : (if (t146 == (!true)) = true then ((castellanlaw19_known.f).bind fun t147 => (some t147)) else (some false)) = some r := H
                        have A143 := Aside0.mk A1430
                        clear A1430
                        by_cases c144 : (t146 == (!true)) = true
                        · rw [if_pos c144] at H
                          have c144b0 : (t146 == (!true)) = true := c144
                          have c144n0 : (t146) = false := by simpa using c144b0
                          (try (have c144b1 : decide (t146 = (!true)) = true := by simpa using c144))
                          (try (have c144b2 : (t146 == (!true)) = true := by simpa using c144))
                          clear c144
                          replace H := Option.bind_eq_some_iff.mp H
                          obtain ⟨t147, A1450, H⟩ := H
                          replace H : (some t147) = some r := H
                          have A145 := Aside0.mk A1450
                          clear A1450
                          obtain rfl := Option.some.inj H
                          have HO := Aside0.mk (Owns.nil_of HB.out)
                          have HF : True := trivial
                          go_wp2_with (first | ((with_reducible refine gate_dst (N := 9) rfl ?_); refine ow_box HO rfl (N := 9) rfl #[.int .i64 0, .int .i64 0, .bool false, .bool false, .int .i64 0, .int .i64 0, .int .i64 0, .int .u32 0, .int .u32 0, .slice none 0 0, .slice none 0 0, .int .i64 0, .int .i64 0, .int .i64 0, .int .i64 0, .int .i64 0, .int .i64 0, .pointer none] 29 ?hr rfl ?_; (case hr => first | (go_simp; done) | (go_simp; rfl)); clear HO HF; intro g9 w1 HO; have HF := HO.out.facts; simp only [Owns.Facts, and_true] at HF) | ((with_reducible refine gate_store (p := 9) rfl ?_); (first | refine ow_put HO rfl rfl 0 rfl (ty := 29) rfl _ rfl rfl (by kernel_rfl) rfl rfl ?_); clear HO HF; intro w1 HO; simp only [List.set_cons_zero, List.set_cons_succ, List.setIfInBounds_toArray] at HO; have HF := HO.out.facts; simp only [Owns.Facts, and_true] at HF) | ((with_reducible refine gate_dst (N := 65) rfl ?_); (first | refine ow_load HO rfl 0 rfl 29 _ rfl _ rfl Try.underlying29 rfl (by kernel_rfl) ?_)) | (go_at_call 13; (with_reducible refine (castellanref3_Cast.calls a0 false _ A125.out).mono ?_); rintro e w1 ⟨rfl, hd⟩; replace HO := Aside0.mk (HO.out.drawn hd); clear HF; have HF := HO.out.facts; simp only [Owns.Facts, and_true] at HF) | ((with_reducible refine gate_callee (f := 14) rfl ?_); refine goesL_ (some 66) rfl rfl Try.func14 (by kernel_rfl) rfl #[.agg #[.int .i64 0, .int .i64 0, .bool false, .bool false, .int .i64 0, .int .i64 0, .int .i64 a1, .int .u32 a0, .int .u32 0, .slice none 0 0, .slice none 0 0, .int .i64 a2, .int .i64 0, .int .i64 0, .int .i64 0, .int .i64 a3, .int .i64 0, .pointer none]] rfl (by (try simp only [List.map_toArray, List.map_cons, List.map_nil]); first | done | rfl | (simp only [List.length_drop, List.length_take]; rfl)) ?_; (refine (reply_May.calls 0 0 false false 0 0 a1 a0 0 _ _ ([] : List Int) _ _ ([] : List Int) a2 0 0 0 a3 0 none t146 _ ?side1 ?side2 ?side3 ?side4 A143.out).mono ?_); (case side1 => exact Kd.C_nil _ _); (case side2 => exact Nat.le_refl _); (case side3 => exact Kd.C_nil _ _); (case side4 => exact Nat.le_refl _); rintro e w1 ⟨rfl, hb⟩; refine ⟨_, rfl, ?_⟩; replace HO := Aside0.mk (HO.out.step hb); clear HF; have HF := HO.out.facts; simp only [Owns.Facts, and_true] at HF) | (go_at_call 12; (with_reducible refine (castellanlaw19_known.calls  t147 _ A145.out).mono ?_); rintro e w1 ⟨rfl, hb⟩; replace HO := Aside0.mk (HO.out.step hb); clear HF; have HF := HO.out.facts; simp only [Owns.Facts, and_true] at HF))
                          go_ret
                          exact ⟨by first | rfl | (simp; done) | (simp [*]; done), HO.out.below⟩
                        · rw [if_neg c144] at H
                          have c144b0 : (t146 == (!true)) = false := by simpa using c144
                          have c144n0 : (t146) = true := by simpa using c144b0
                          (try (have c144b1 : decide (t146 = (!true)) = false := by simpa using c144))
                          (try (have c144b2 : (t146 == (!true)) = false := by simpa using c144))
                          (try (have c144b3 : ¬ (t146 = (!true)) := by simpa using c144))
                          clear c144
                          exact absurd (H.trans (congrArg some HRT.out)) (by simp)
                    · rw [if_neg c134] at H
                      have c134b0 : (a1 == 1) = false := beq_eq_false_iff_ne.mpr c134
                      have c134b1 : (a1 != 1) = true := bne_iff_ne.mpr c134
                      replace H := Option.bind_eq_some_iff.mp H
                      obtain ⟨t148, A1500, H⟩ := H
                      replace H : (if (t148 == (!false)) = true then ((castellanlaw19_known.f).bind fun t149 => (some t149)) else (some false)) = some r := H
                      have A150 := Aside0.mk A1500
                      clear A1500
                      by_cases c151 : (t148 == (!false)) = true
                      · rw [if_pos c151] at H
                        have c151b0 : (t148 == (!false)) = true := c151
                        have c151n0 : (t148) = true := by simpa using c151b0
                        (try (have c151b1 : decide (t148 = (!false)) = true := by simpa using c151))
                        (try (have c151b2 : (t148 == (!false)) = true := by simpa using c151))
                        clear c151
                        replace H := Option.bind_eq_some_iff.mp H
                        obtain ⟨t149, A1520, H⟩ := H
                        replace H : (some t149) = some r := H
                        have A152 := Aside0.mk A1520
                        clear A1520
                        obtain rfl := Option.some.inj H
                        have HO := Aside0.mk (Owns.nil_of HB.out)
                        have HF : True := trivial
                        go_wp2_with (first | ((with_reducible refine gate_dst (N := 9) rfl ?_); refine ow_box HO rfl (N := 9) rfl #[.int .i64 0, .int .i64 0, .bool false, .bool false, .int .i64 0, .int .i64 0, .int .i64 0, .int .u32 0, .int .u32 0, .slice none 0 0, .slice none 0 0, .int .i64 0, .int .i64 0, .int .i64 0, .int .i64 0, .int .i64 0, .int .i64 0, .pointer none] 29 ?hr rfl ?_; (case hr => first | (go_simp; done) | (go_simp; rfl)); clear HO HF; intro g9 w1 HO; have HF := HO.out.facts; simp only [Owns.Facts, and_true] at HF) | ((with_reducible refine gate_store (p := 9) rfl ?_); (first | refine ow_put HO rfl rfl 0 rfl (ty := 29) rfl _ rfl rfl (by kernel_rfl) rfl rfl ?_); clear HO HF; intro w1 HO; simp only [List.set_cons_zero, List.set_cons_succ, List.setIfInBounds_toArray] at HO; have HF := HO.out.facts; simp only [Owns.Facts, and_true] at HF) | ((with_reducible refine gate_dst (N := 65) rfl ?_); (first | refine ow_load HO rfl 0 rfl 29 _ rfl _ rfl Try.underlying29 rfl (by kernel_rfl) ?_)) | (go_at_call 13; (with_reducible refine (castellanref3_Cast.calls a0 false _ A125.out).mono ?_); rintro e w1 ⟨rfl, hd⟩; replace HO := Aside0.mk (HO.out.drawn hd); clear HF; have HF := HO.out.facts; simp only [Owns.Facts, and_true] at HF) | ((with_reducible refine gate_callee (f := 14) rfl ?_); refine goesL_ (some 66) rfl rfl Try.func14 (by kernel_rfl) rfl #[.agg #[.int .i64 0, .int .i64 0, .bool false, .bool false, .int .i64 0, .int .i64 0, .int .i64 a1, .int .u32 a0, .int .u32 0, .slice none 0 0, .slice none 0 0, .int .i64 a2, .int .i64 0, .int .i64 0, .int .i64 0, .int .i64 a3, .int .i64 0, .pointer none]] rfl (by (try simp only [List.map_toArray, List.map_cons, List.map_nil]); first | done | rfl | (simp only [List.length_drop, List.length_take]; rfl)) ?_; (refine (reply_May.calls 0 0 false false 0 0 a1 a0 0 _ _ ([] : List Int) _ _ ([] : List Int) a2 0 0 0 a3 0 none t148 _ ?side1 ?side2 ?side3 ?side4 A150.out).mono ?_); (case side1 => exact Kd.C_nil _ _); (case side2 => exact Nat.le_refl _); (case side3 => exact Kd.C_nil _ _); (case side4 => exact Nat.le_refl _); rintro e w1 ⟨rfl, hb⟩; refine ⟨_, rfl, ?_⟩; replace HO := Aside0.mk (HO.out.step hb); clear HF; have HF := HO.out.facts; simp only [Owns.Facts, and_true] at HF) | (go_at_call 12; (with_reducible refine (castellanlaw19_known.calls  t149 _ A152.out).mono ?_); rintro e w1 ⟨rfl, hb⟩; replace HO := Aside0.mk (HO.out.step hb); clear HF; have HF := HO.out.facts; simp only [Owns.Facts, and_true] at HF))
                        go_ret
                        exact ⟨by first | rfl | (simp; done) | (simp [*]; done), HO.out.below⟩
                      · rw [if_neg c151] at H
                        have c151b0 : (t148 == (!false)) = false := by simpa using c151
                        have c151n0 : (t148) = false := by simpa using c151b0
                        (try (have c151b1 : decide (t148 = (!false)) = false := by simpa using c151))
                        (try (have c151b2 : (t148 == (!false)) = false := by simpa using c151))
                        (try (have c151b3 : ¬ (t148 = (!false)) := by simpa using c151))
                        clear c151
                        exact absurd (H.trans (congrArg some HRT.out)) (by simp)
            · rw [if_neg c108] at H
              have c108b0 : (a3 == 5) = false := beq_eq_false_iff_ne.mpr c108
              have c108b1 : (a3 != 5) = true := bne_iff_ne.mpr c108
              by_cases c157 : a3 = 11
              · rw [if_pos c157] at H
                have c157b0 : (a3 == 11) = true := beq_iff_eq.mpr c157
                have c157b1 : (a3 != 11) = false := bne_eq_false_iff_eq.mpr c157
                clear c157
                by_cases c158 : a2 = 2
                · rw [if_pos c158] at H
                  have c158b0 : (a2 == 2) = true := beq_iff_eq.mpr c158
                  have c158b1 : (a2 != 2) = false := bne_eq_false_iff_eq.mpr c158
                  clear c158
                  replace H := Option.bind_eq_some_iff.mp H
                  obtain ⟨t150, A1590, H⟩ := H
                  replace H : (if (t150 == (!true)) = true then ((castellanlaw19_known.f).bind fun t151 => (some t151)) else (some false)) = some r := H
                  have A159 := Aside0.mk A1590
                  clear A1590
                  by_cases c160 : (t150 == (!true)) = true
                  · rw [if_pos c160] at H
                    have c160b0 : (t150 == (!true)) = true := c160
                    have c160n0 : (t150) = false := by simpa using c160b0
                    (try (have c160b1 : decide (t150 = (!true)) = true := by simpa using c160))
                    (try (have c160b2 : (t150 == (!true)) = true := by simpa using c160))
                    clear c160
                    replace H := Option.bind_eq_some_iff.mp H
                    obtain ⟨t151, A1610, H⟩ := H
                    replace H : (some t151) = some r := H
                    have A161 := Aside0.mk A1610
                    clear A1610
                    obtain rfl := Option.some.inj H
                    have HO := Aside0.mk (Owns.nil_of HB.out)
                    have HF : True := trivial
                    go_wp2_with (first | ((with_reducible refine gate_dst (N := 9) rfl ?_); refine ow_box HO rfl (N := 9) rfl #[.int .i64 0, .int .i64 0, .bool false, .bool false, .int .i64 0, .int .i64 0, .int .i64 0, .int .u32 0, .int .u32 0, .slice none 0 0, .slice none 0 0, .int .i64 0, .int .i64 0, .int .i64 0, .int .i64 0, .int .i64 0, .int .i64 0, .pointer none] 29 ?hr rfl ?_; (case hr => first | (go_simp; done) | (go_simp; rfl)); clear HO HF; intro g9 w1 HO; have HF := HO.out.facts; simp only [Owns.Facts, and_true] at HF) | ((with_reducible refine gate_store (p := 9) rfl ?_); (first | refine ow_put HO rfl rfl 0 rfl (ty := 29) rfl _ rfl rfl (by kernel_rfl) rfl rfl ?_); clear HO HF; intro w1 HO; simp only [List.set_cons_zero, List.set_cons_succ, List.setIfInBounds_toArray] at HO; have HF := HO.out.facts; simp only [Owns.Facts, and_true] at HF) | ((with_reducible refine gate_dst (N := 65) rfl ?_); (first | refine ow_load HO rfl 0 rfl 29 _ rfl _ rfl Try.underlying29 rfl (by kernel_rfl) ?_)) | ((with_reducible refine gate_callee (f := 14) rfl ?_); refine goesL_ (some 66) rfl rfl Try.func14 (by kernel_rfl) rfl #[.agg #[.int .i64 0, .int .i64 0, .bool false, .bool false, .int .i64 0, .int .i64 0, .int .i64 a1, .int .u32 a0, .int .u32 0, .slice none 0 0, .slice none 0 0, .int .i64 a2, .int .i64 0, .int .i64 0, .int .i64 0, .int .i64 a3, .int .i64 0, .pointer none]] rfl (by (try simp only [List.map_toArray, List.map_cons, List.map_nil]); first | done | rfl | (simp only [List.length_drop, List.length_take]; rfl)) ?_; (refine (reply_May.calls 0 0 false false 0 0 a1 a0 0 _ _ ([] : List Int) _ _ ([] : List Int) a2 0 0 0 a3 0 none t150 _ ?side1 ?side2 ?side3 ?side4 A159.out).mono ?_); (case side1 => exact Kd.C_nil _ _); (case side2 => exact Nat.le_refl _); (case side3 => exact Kd.C_nil _ _); (case side4 => exact Nat.le_refl _); rintro e w1 ⟨rfl, hb⟩; refine ⟨_, rfl, ?_⟩; replace HO := Aside0.mk (HO.out.step hb); clear HF; have HF := HO.out.facts; simp only [Owns.Facts, and_true] at HF) | (go_at_call 12; (with_reducible refine (castellanlaw19_known.calls  t151 _ A161.out).mono ?_); rintro e w1 ⟨rfl, hb⟩; replace HO := Aside0.mk (HO.out.step hb); clear HF; have HF := HO.out.facts; simp only [Owns.Facts, and_true] at HF))
                    go_ret
                    exact ⟨by first | rfl | (simp; done) | (simp [*]; done), HO.out.below⟩
                  · rw [if_neg c160] at H
                    have c160b0 : (t150 == (!true)) = false := by simpa using c160
                    have c160n0 : (t150) = true := by simpa using c160b0
                    (try (have c160b1 : decide (t150 = (!true)) = false := by simpa using c160))
                    (try (have c160b2 : (t150 == (!true)) = false := by simpa using c160))
                    (try (have c160b3 : ¬ (t150 = (!true)) := by simpa using c160))
                    clear c160
                    exact absurd (H.trans (congrArg some HRT.out)) (by simp)
                · rw [if_neg c158] at H
                  have c158b0 : (a2 == 2) = false := beq_eq_false_iff_ne.mpr c158
                  have c158b1 : (a2 != 2) = true := bne_iff_ne.mpr c158
                  by_cases c166 : (a0 / 16777216) = 0
                  · rw [if_pos c166] at H
                    have c166b0 : ((a0 / 16777216) == 0) = true := beq_iff_eq.mpr c166
                    have c166b1 : ((a0 / 16777216) != 0) = false := bne_eq_false_iff_eq.mpr c166
                    clear c166
                    replace H := Option.bind_eq_some_iff.mp H
                    obtain ⟨t152, A1670, H⟩ := H
                    replace H : (if (t152 == (!true)) = true then ((castellanlaw19_known.f).bind fun t153 => (some t153)) else (some false)) = some r := H
                    have A167 := Aside0.mk A1670
                    clear A1670
                    by_cases c168 : (t152 == (!true)) = true
                    · rw [if_pos c168] at H
                      have c168b0 : (t152 == (!true)) = true := c168
                      have c168n0 : (t152) = false := by simpa using c168b0
                      (try (have c168b1 : decide (t152 = (!true)) = true := by simpa using c168))
                      (try (have c168b2 : (t152 == (!true)) = true := by simpa using c168))
                      clear c168
                      replace H := Option.bind_eq_some_iff.mp H
                      obtain ⟨t153, A1690, H⟩ := H
                      replace H : (some t153) = some r := H
                      have A169 := Aside0.mk A1690
                      clear A1690
                      obtain rfl := Option.some.inj H
                      have HO := Aside0.mk (Owns.nil_of HB.out)
                      have HF : True := trivial
                      go_wp2_with (first | ((with_reducible refine gate_dst (N := 9) rfl ?_); refine ow_box HO rfl (N := 9) rfl #[.int .i64 0, .int .i64 0, .bool false, .bool false, .int .i64 0, .int .i64 0, .int .i64 0, .int .u32 0, .int .u32 0, .slice none 0 0, .slice none 0 0, .int .i64 0, .int .i64 0, .int .i64 0, .int .i64 0, .int .i64 0, .int .i64 0, .pointer none] 29 ?hr rfl ?_; (case hr => first | (go_simp; done) | (go_simp; rfl)); clear HO HF; intro g9 w1 HO; have HF := HO.out.facts; simp only [Owns.Facts, and_true] at HF) | ((with_reducible refine gate_store (p := 9) rfl ?_); (first | refine ow_put HO rfl rfl 0 rfl (ty := 29) rfl _ rfl rfl (by kernel_rfl) rfl rfl ?_); clear HO HF; intro w1 HO; simp only [List.set_cons_zero, List.set_cons_succ, List.setIfInBounds_toArray] at HO; have HF := HO.out.facts; simp only [Owns.Facts, and_true] at HF) | ((with_reducible refine gate_dst (N := 65) rfl ?_); (first | refine ow_load HO rfl 0 rfl 29 _ rfl _ rfl Try.underlying29 rfl (by kernel_rfl) ?_)) | ((with_reducible refine gate_callee (f := 14) rfl ?_); refine goesL_ (some 66) rfl rfl Try.func14 (by kernel_rfl) rfl #[.agg #[.int .i64 0, .int .i64 0, .bool false, .bool false, .int .i64 0, .int .i64 0, .int .i64 a1, .int .u32 a0, .int .u32 0, .slice none 0 0, .slice none 0 0, .int .i64 a2, .int .i64 0, .int .i64 0, .int .i64 0, .int .i64 a3, .int .i64 0, .pointer none]] rfl (by (try simp only [List.map_toArray, List.map_cons, List.map_nil]); first | done | rfl | (simp only [List.length_drop, List.length_take]; rfl)) ?_; (refine (reply_May.calls 0 0 false false 0 0 a1 a0 0 _ _ ([] : List Int) _ _ ([] : List Int) a2 0 0 0 a3 0 none t152 _ ?side1 ?side2 ?side3 ?side4 A167.out).mono ?_); (case side1 => exact Kd.C_nil _ _); (case side2 => exact Nat.le_refl _); (case side3 => exact Kd.C_nil _ _); (case side4 => exact Nat.le_refl _); rintro e w1 ⟨rfl, hb⟩; refine ⟨_, rfl, ?_⟩; replace HO := Aside0.mk (HO.out.step hb); clear HF; have HF := HO.out.facts; simp only [Owns.Facts, and_true] at HF) | (go_at_call 12; (with_reducible refine (castellanlaw19_known.calls  t153 _ A169.out).mono ?_); rintro e w1 ⟨rfl, hb⟩; replace HO := Aside0.mk (HO.out.step hb); clear HF; have HF := HO.out.facts; simp only [Owns.Facts, and_true] at HF))
                      go_ret
                      exact ⟨by first | rfl | (simp; done) | (simp [*]; done), HO.out.below⟩
                    · rw [if_neg c168] at H
                      have c168b0 : (t152 == (!true)) = false := by simpa using c168
                      have c168n0 : (t152) = true := by simpa using c168b0
                      (try (have c168b1 : decide (t152 = (!true)) = false := by simpa using c168))
                      (try (have c168b2 : (t152 == (!true)) = false := by simpa using c168))
                      (try (have c168b3 : ¬ (t152 = (!true)) := by simpa using c168))
                      clear c168
                      exact absurd (H.trans (congrArg some HRT.out)) (by simp)
                  · rw [if_neg c166] at H
                    have c166b0 : ((a0 / 16777216) == 0) = false := beq_eq_false_iff_ne.mpr c166
                    have c166b1 : ((a0 / 16777216) != 0) = true := bne_iff_ne.mpr c166
                    replace H := Option.bind_eq_some_iff.mp H
                    obtain ⟨t154, A1740, H⟩ := H
                    replace H : (if t154 = true then ((reply_May.f 0 0 false false 0 0 a1 a0 0 ([] : List Int) ([] : List Int) a2 0 0 0 a3 0 none).bind fun t155 => (if (t155 == (!true)) = true then ((castellanlaw19_known.f).bind fun t156 => (some t156)) else (some false))) else (if a1 = 1 then (if a2 = 1 then ((reply_May.f 0 0 false false 0 0 a1 a0 0 ([] : List Int) ([] : List Int) a2 0 0 0 a3 0 none).bind fun t157 => (if (t157 == (!true)) = true then ((castellanlaw19_known.f).bind fun t158 => (some t158)) else (some false))) else ((reply_May.f 0 0 false false 0 0 a1 a0 0 ([] : List Int) ([] : List Int) a2 0 0 0 a3 0 none).bind fun t159 => (if (t159 == (!true)) = true then ((castellanlaw19_known.f).bind fun t160 => (some t160)) else (some false)))) else ((reply_May.f 0 0 false false 0 0 a1 a0 0 ([] : List Int) ([] : List Int) a2 0 0 0 a3 0 none).bind fun t161 => (if (t161 == (!false)) = true then ((castellanlaw19_known.f).bind fun t162 => (some t162)) else (some false))))) = some r := H
                    have A174 := Aside0.mk A1740
                    clear A1740
                    by_cases c175 : t154 = true
                    · subst c175
                      have H1 : ((reply_May.f 0 0 false false 0 0 a1 a0 0 ([] : List Int) ([] : List Int) a2 0 0 0 a3 0 none).bind fun t155 => (if (t155 == (!true)) = true then ((castellanlaw19_known.f).bind fun t156 => (some t156)) else (some false))) = some r := by rw [if_pos rfl] at H; exact H
                      clear H
                      have H := H1
                      clear H1
                      replace H := Option.bind_eq_some_iff.mp H
                      obtain ⟨t155, A1760, H⟩ := H
                      replace H : (if (t155 == (!true)) = true then ((castellanlaw19_known.f).bind fun t156 => (some t156)) else (some false)) = some r := H
                      have A176 := Aside0.mk A1760
                      clear A1760
                      by_cases c177 : (t155 == (!true)) = true
                      · rw [if_pos c177] at H
                        have c177b0 : (t155 == (!true)) = true := c177
                        have c177n0 : (t155) = false := by simpa using c177b0
                        (try (have c177b1 : decide (t155 = (!true)) = true := by simpa using c177))
                        (try (have c177b2 : (t155 == (!true)) = true := by simpa using c177))
                        clear c177
                        replace H := Option.bind_eq_some_iff.mp H
                        obtain ⟨t156, A1780, H⟩ := H
                        replace H : (some t156) = some r := H
                        have A178 := Aside0.mk A1780
                        clear A1780
                        obtain rfl := Option.some.inj H
                        have HO := Aside0.mk (Owns.nil_of HB.out)
                        have HF : True := trivial
                        go_wp2_with (first | ((with_reducible refine gate_dst (N := 9) rfl ?_); refine ow_box HO rfl (N := 9) rfl #[.int .i64 0, .int .i64 0, .bool false, .bool false, .int .i64 0, .int .i64 0, .int .i64 0, .int .u32 0, .int .u32 0, .slice none 0 0, .slice none 0 0, .int .i64 0, .int .i64 0, .int .i64 0, .int .i64 0, .int .i64 0, .int .i64 0, .pointer none] 29 ?hr rfl ?_; (case hr => first | (go_simp; done) | (go_simp; rfl)); clear HO HF; intro g9 w1 HO; have HF := HO.out.facts; simp only [Owns.Facts, and_true] at HF) | ((with_reducible refine gate_store (p := 9) rfl ?_); (first | refine ow_put HO rfl rfl 0 rfl (ty := 29) rfl _ rfl rfl (by kernel_rfl) rfl rfl ?_); clear HO HF; intro w1 HO; simp only [List.set_cons_zero, List.set_cons_succ, List.setIfInBounds_toArray] at HO; have HF := HO.out.facts; simp only [Owns.Facts, and_true] at HF) | ((with_reducible refine gate_dst (N := 65) rfl ?_); (first | refine ow_load HO rfl 0 rfl 29 _ rfl _ rfl Try.underlying29 rfl (by kernel_rfl) ?_)) | (go_at_call 13; (with_reducible refine (castellanref3_Cast.calls a0 true _ A174.out).mono ?_); rintro e w1 ⟨rfl, hd⟩; replace HO := Aside0.mk (HO.out.drawn hd); clear HF; have HF := HO.out.facts; simp only [Owns.Facts, and_true] at HF) | ((with_reducible refine gate_callee (f := 14) rfl ?_); refine goesL_ (some 66) rfl rfl Try.func14 (by kernel_rfl) rfl #[.agg #[.int .i64 0, .int .i64 0, .bool false, .bool false, .int .i64 0, .int .i64 0, .int .i64 a1, .int .u32 a0, .int .u32 0, .slice none 0 0, .slice none 0 0, .int .i64 a2, .int .i64 0, .int .i64 0, .int .i64 0, .int .i64 a3, .int .i64 0, .pointer none]] rfl (by (try simp only [List.map_toArray, List.map_cons, List.map_nil]); first | done | rfl | (simp only [List.length_drop, List.length_take]; rfl)) ?_; (refine (reply_May.calls 0 0 false false 0 0 a1 a0 0 _ _ ([] : List Int) _ _ ([] : List Int) a2 0 0 0 a3 0 none t155 _ ?side1 ?side2 ?side3 ?side4 A176.out).mono ?_); (case side1 => exact Kd.C_nil _ _); (case side2 => exact Nat.le_refl _); (case side3 => exact Kd.C_nil _ _); (case side4 => exact Nat.le_refl _); rintro e w1 ⟨rfl, hb⟩; refine ⟨_, rfl, ?_⟩; replace HO := Aside0.mk (HO.out.step hb); clear HF; have HF := HO.out.facts; simp only [Owns.Facts, and_true] at HF) | (go_at_call 12; (with_reducible refine (castellanlaw19_known.calls  t156 _ A178.out).mono ?_); rintro e w1 ⟨rfl, hb⟩; replace HO := Aside0.mk (HO.out.step hb); clear HF; have HF := HO.out.facts; simp only [Owns.Facts, and_true] at HF))
                        go_ret
                        exact ⟨by first | rfl | (simp; done) | (simp [*]; done), HO.out.below⟩
                      · rw [if_neg c177] at H
                        have c177b0 : (t155 == (!true)) = false := by simpa using c177
                        have c177n0 : (t155) = true := by simpa using c177b0
                        (try (have c177b1 : decide (t155 = (!true)) = false := by simpa using c177))
                        (try (have c177b2 : (t155 == (!true)) = false := by simpa using c177))
                        (try (have c177b3 : ¬ (t155 = (!true)) := by simpa using c177))
                        clear c177
                        exact absurd (H.trans (congrArg some HRT.out)) (by simp)
                    · replace c175 := Bool.eq_false_iff.mpr c175
                      subst c175
                      have H1 : (if a1 = 1 then (if a2 = 1 then ((reply_May.f 0 0 false false 0 0 a1 a0 0 ([] : List Int) ([] : List Int) a2 0 0 0 a3 0 none).bind fun t157 => (if (t157 == (!true)) = true then ((castellanlaw19_known.f).bind fun t158 => (some t158)) else (some false))) else ((reply_May.f 0 0 false false 0 0 a1 a0 0 ([] : List Int) ([] : List Int) a2 0 0 0 a3 0 none).bind fun t159 => (if (t159 == (!true)) = true then ((castellanlaw19_known.f).bind fun t160 => (some t160)) else (some false)))) else ((reply_May.f 0 0 false false 0 0 a1 a0 0 ([] : List Int) ([] : List Int) a2 0 0 0 a3 0 none).bind fun t161 => (if (t161 == (!false)) = true then ((castellanlaw19_known.f).bind fun t162 => (some t162)) else (some false)))) = some r := by rw [if_neg (show ¬ (false = true) by decide)] at H; exact H
                      clear H
                      have H := H1
                      clear H1
                      by_cases c183 : a1 = 1
                      · rw [if_pos c183] at H
                        have c183b0 : (a1 == 1) = true := beq_iff_eq.mpr c183
                        have c183b1 : (a1 != 1) = false := bne_eq_false_iff_eq.mpr c183
                        clear c183
                        by_cases c184 : a2 = 1
                        · rw [if_pos c184] at H
                          have c184b0 : (a2 == 1) = true := beq_iff_eq.mpr c184
                          have c184b1 : (a2 != 1) = false := bne_eq_false_iff_eq.mpr c184
                          clear c184
                          replace H := Option.bind_eq_some_iff.mp H
                          obtain ⟨t157, A1850, H⟩ := H
                          replace H : (if (t157 == (!true)) = true then ((castellanlaw19_known.f).bind fun t158 => (some t158)) else (some false)) = some r := H
                          have A185 := Aside0.mk A1850
                          clear A1850
                          by_cases c186 : (t157 == (!true)) = true
                          · rw [if_pos c186] at H
                            have c186b0 : (t157 == (!true)) = true := c186
                            have c186n0 : (t157) = false := by simpa using c186b0
                            (try (have c186b1 : decide (t157 = (!true)) = true := by simpa using c186))
                            (try (have c186b2 : (t157 == (!true)) = true := by simpa using c186))
                            clear c186
                            replace H := Option.bind_eq_some_iff.mp H
                            obtain ⟨t158, A1870, H⟩ := H
                            replace H : (some t158) = some r := H
                            have A187 := Aside0.mk A1870
                            clear A1870
                            obtain rfl := Option.some.inj H
                            have HO := Aside0.mk (Owns.nil_of HB.out)
                            have HF : True := trivial
                            go_wp2_with (first | ((with_reducible refine gate_dst (N := 9) rfl ?_); refine ow_box HO rfl (N := 9) rfl #[.int .i64 0, .int .i64 0, .bool false, .bool false, .int .i64 0, .int .i64 0, .int .i64 0, .int .u32 0, .int .u32 0, .slice none 0 0, .slice none 0 0, .int .i64 0, .int .i64 0, .int .i64 0, .int .i64 0, .int .i64 0, .int .i64 0, .pointer none] 29 ?hr rfl ?_; (case hr => first | (go_simp; done) | (go_simp; rfl)); clear HO HF; intro g9 w1 HO; have HF := HO.out.facts; simp only [Owns.Facts, and_true] at HF) | ((with_reducible refine gate_store (p := 9) rfl ?_); (first | refine ow_put HO rfl rfl 0 rfl (ty := 29) rfl _ rfl rfl (by kernel_rfl) rfl rfl ?_); clear HO HF; intro w1 HO; simp only [List.set_cons_zero, List.set_cons_succ, List.setIfInBounds_toArray] at HO; have HF := HO.out.facts; simp only [Owns.Facts, and_true] at HF) | ((with_reducible refine gate_dst (N := 65) rfl ?_); (first | refine ow_load HO rfl 0 rfl 29 _ rfl _ rfl Try.underlying29 rfl (by kernel_rfl) ?_)) | (go_at_call 13; (with_reducible refine (castellanref3_Cast.calls a0 false _ A174.out).mono ?_); rintro e w1 ⟨rfl, hd⟩; replace HO := Aside0.mk (HO.out.drawn hd); clear HF; have HF := HO.out.facts; simp only [Owns.Facts, and_true] at HF) | ((with_reducible refine gate_callee (f := 14) rfl ?_); refine goesL_ (some 66) rfl rfl Try.func14 (by kernel_rfl) rfl #[.agg #[.int .i64 0, .int .i64 0, .bool false, .bool false, .int .i64 0, .int .i64 0, .int .i64 a1, .int .u32 a0, .int .u32 0, .slice none 0 0, .slice none 0 0, .int .i64 a2, .int .i64 0, .int .i64 0, .int .i64 0, .int .i64 a3, .int .i64 0, .pointer none]] rfl (by (try simp only [List.map_toArray, List.map_cons, List.map_nil]); first | done | rfl | (simp only [List.length_drop, List.length_take]; rfl)) ?_; (refine (reply_May.calls 0 0 false false 0 0 a1 a0 0 _ _ ([] : List Int) _ _ ([] : List Int) a2 0 0 0 a3 0 none t157 _ ?side1 ?side2 ?side3 ?side4 A185.out).mono ?_); (case side1 => exact Kd.C_nil _ _); (case side2 => exact Nat.le_refl _); (case side3 => exact Kd.C_nil _ _); (case side4 => exact Nat.le_refl _); rintro e w1 ⟨rfl, hb⟩; refine ⟨_, rfl, ?_⟩; replace HO := Aside0.mk (HO.out.step hb); clear HF; have HF := HO.out.facts; simp only [Owns.Facts, and_true] at HF) | (go_at_call 12; (with_reducible refine (castellanlaw19_known.calls  t158 _ A187.out).mono ?_); rintro e w1 ⟨rfl, hb⟩; replace HO := Aside0.mk (HO.out.step hb); clear HF; have HF := HO.out.facts; simp only [Owns.Facts, and_true] at HF))
                            go_ret
                            exact ⟨by first | rfl | (simp; done) | (simp [*]; done), HO.out.below⟩
                          · rw [if_neg c186] at H
                            have c186b0 : (t157 == (!true)) = false := by simpa using c186
                            have c186n0 : (t157) = true := by simpa using c186b0
                            (try (have c186b1 : decide (t157 = (!true)) = false := by simpa using c186))
                            (try (have c186b2 : (t157 == (!true)) = false := by simpa using c186))
                            (try (have c186b3 : ¬ (t157 = (!true)) := by simpa using c186))
                            clear c186
                            exact absurd (H.trans (congrArg some HRT.out)) (by simp)
                        · rw [if_neg c184] at H
                          have c184b0 : (a2 == 1) = false := beq_eq_false_iff_ne.mpr c184
                          have c184b1 : (a2 != 1) = true := bne_iff_ne.mpr c184
                          replace H := Option.bind_eq_some_iff.mp H
                          obtain ⟨t159, A1920, H⟩ := H
                          replace H : (if (t159 == (!true)) = true then ((castellanlaw19_known.f).bind fun t160 => (some t160)) else (some false)) = some r := H
                          have A192 := Aside0.mk A1920
                          clear A1920
                          by_cases c193 : (t159 == (!true)) = true
                          · rw [if_pos c193] at H
                            have c193b0 : (t159 == (!true)) = true := c193
                            have c193n0 : (t159) = false := by simpa using c193b0
                            (try (have c193b1 : decide (t159 = (!true)) = true := by simpa using c193))
                            (try (have c193b2 : (t159 == (!true)) = true := by simpa using c193))
                            clear c193
                            replace H := Option.bind_eq_some_iff.mp H
                            obtain ⟨t160, A1940, H⟩ := H
                            replace H : (some t160) = some r := H
                            have A194 := Aside0.mk A1940
                            clear A1940
                            obtain rfl := Option.some.inj H
                            have HO := Aside0.mk (Owns.nil_of HB.out)
                            have HF : True := trivial
                            go_wp2_with (first | ((with_reducible refine gate_dst (N := 9) rfl ?_); refine ow_box HO rfl (N := 9) rfl #[.int .i64 0, .int .i64 0, .bool false, .bool false, .int .i64 0, .int .i64 0, .int .i64 0, .int .u32 0, .int .u32 0, .slice none 0 0, .slice none 0 0, .int .i64 0, .int .i64 0, .int .i64 0, .int .i64 0, .int .i64 0, .int .i64 0, .pointer none] 29 ?hr rfl ?_; (case hr => first | (go_simp; done) | (go_simp; rfl)); clear HO HF; intro g9 w1 HO; have HF := HO.out.facts; simp only [Owns.Facts, and_true] at HF) | ((with_reducible refine gate_store (p := 9) rfl ?_); (first | refine ow_put HO rfl rfl 0 rfl (ty := 29) rfl _ rfl rfl (by kernel_rfl) rfl rfl ?_); clear HO HF; intro w1 HO; simp only [List.set_cons_zero, List.set_cons_succ, List.setIfInBounds_toArray] at HO; have HF := HO.out.facts; simp only [Owns.Facts, and_true] at HF) | ((with_reducible refine gate_dst (N := 65) rfl ?_); (first | refine ow_load HO rfl 0 rfl 29 _ rfl _ rfl Try.underlying29 rfl (by kernel_rfl) ?_)) | (go_at_call 13; (with_reducible refine (castellanref3_Cast.calls a0 false _ A174.out).mono ?_); rintro e w1 ⟨rfl, hd⟩; replace HO := Aside0.mk (HO.out.drawn hd); clear HF; have HF := HO.out.facts; simp only [Owns.Facts, and_true] at HF) | ((with_reducible refine gate_callee (f := 14) rfl ?_); refine goesL_ (some 66) rfl rfl Try.func14 (by kernel_rfl) rfl #[.agg #[.int .i64 0, .int .i64 0, .bool false, .bool false, .int .i64 0, .int .i64 0, .int .i64 a1, .int .u32 a0, .int .u32 0, .slice none 0 0, .slice none 0 0, .int .i64 a2, .int .i64 0, .int .i64 0, .int .i64 0, .int .i64 a3, .int .i64 0, .pointer none]] rfl (by (try simp only [List.map_toArray, List.map_cons, List.map_nil]); first | done | rfl | (simp only [List.length_drop, List.length_take]; rfl)) ?_; (refine (reply_May.calls 0 0 false false 0 0 a1 a0 0 _ _ ([] : List Int) _ _ ([] : List Int) a2 0 0 0 a3 0 none t159 _ ?side1 ?side2 ?side3 ?side4 A192.out).mono ?_); (case side1 => exact Kd.C_nil _ _); (case side2 => exact Nat.le_refl _); (case side3 => exact Kd.C_nil _ _); (case side4 => exact Nat.le_refl _); rintro e w1 ⟨rfl, hb⟩; refine ⟨_, rfl, ?_⟩; replace HO := Aside0.mk (HO.out.step hb); clear HF; have HF := HO.out.facts; simp only [Owns.Facts, and_true] at HF) | (go_at_call 12; (with_reducible refine (castellanlaw19_known.calls  t160 _ A194.out).mono ?_); rintro e w1 ⟨rfl, hb⟩; replace HO := Aside0.mk (HO.out.step hb); clear HF; have HF := HO.out.facts; simp only [Owns.Facts, and_true] at HF))
                            go_ret
                            exact ⟨by first | rfl | (simp; done) | (simp [*]; done), HO.out.below⟩
                          · rw [if_neg c193] at H
                            have c193b0 : (t159 == (!true)) = false := by simpa using c193
                            have c193n0 : (t159) = true := by simpa using c193b0
                            (try (have c193b1 : decide (t159 = (!true)) = false := by simpa using c193))
                            (try (have c193b2 : (t159 == (!true)) = false := by simpa using c193))
                            (try (have c193b3 : ¬ (t159 = (!true)) := by simpa using c193))
                            clear c193
                            exact absurd (H.trans (congrArg some HRT.out)) (by simp)
                      · rw [if_neg c183] at H
                        have c183b0 : (a1 == 1) = false := beq_eq_false_iff_ne.mpr c183
                        have c183b1 : (a1 != 1) = true := bne_iff_ne.mpr c183
                        replace H := Option.bind_eq_some_iff.mp H
                        obtain ⟨t161, A1990, H⟩ := H
                        replace H : (if (t161 == (!false)) = true then ((castellanlaw19_known.f).bind fun t162 => (some t162)) else (some false)) = some r := H
                        have A199 := Aside0.mk A1990
                        clear A1990
                        by_cases c200 : (t161 == (!false)) = true
                        · rw [if_pos c200] at H
                          have c200b0 : (t161 == (!false)) = true := c200
                          have c200n0 : (t161) = true := by simpa using c200b0
                          (try (have c200b1 : decide (t161 = (!false)) = true := by simpa using c200))
                          (try (have c200b2 : (t161 == (!false)) = true := by simpa using c200))
                          clear c200
                          replace H := Option.bind_eq_some_iff.mp H
                          obtain ⟨t162, A2010, H⟩ := H
                          replace H : (some t162) = some r := H
                          have A201 := Aside0.mk A2010
                          clear A2010
                          obtain rfl := Option.some.inj H
                          have HO := Aside0.mk (Owns.nil_of HB.out)
                          have HF : True := trivial
                          go_wp2_with (first | ((with_reducible refine gate_dst (N := 9) rfl ?_); refine ow_box HO rfl (N := 9) rfl #[.int .i64 0, .int .i64 0, .bool false, .bool false, .int .i64 0, .int .i64 0, .int .i64 0, .int .u32 0, .int .u32 0, .slice none 0 0, .slice none 0 0, .int .i64 0, .int .i64 0, .int .i64 0, .int .i64 0, .int .i64 0, .int .i64 0, .pointer none] 29 ?hr rfl ?_; (case hr => first | (go_simp; done) | (go_simp; rfl)); clear HO HF; intro g9 w1 HO; have HF := HO.out.facts; simp only [Owns.Facts, and_true] at HF) | ((with_reducible refine gate_store (p := 9) rfl ?_); (first | refine ow_put HO rfl rfl 0 rfl (ty := 29) rfl _ rfl rfl (by kernel_rfl) rfl rfl ?_); clear HO HF; intro w1 HO; simp only [List.set_cons_zero, List.set_cons_succ, List.setIfInBounds_toArray] at HO; have HF := HO.out.facts; simp only [Owns.Facts, and_true] at HF) | ((with_reducible refine gate_dst (N := 65) rfl ?_); (first | refine ow_load HO rfl 0 rfl 29 _ rfl _ rfl Try.underlying29 rfl (by kernel_rfl) ?_)) | (go_at_call 13; (with_reducible refine (castellanref3_Cast.calls a0 false _ A174.out).mono ?_); rintro e w1 ⟨rfl, hd⟩; replace HO := Aside0.mk (HO.out.drawn hd); clear HF; have HF := HO.out.facts; simp only [Owns.Facts, and_true] at HF) | ((with_reducible refine gate_callee (f := 14) rfl ?_); refine goesL_ (some 66) rfl rfl Try.func14 (by kernel_rfl) rfl #[.agg #[.int .i64 0, .int .i64 0, .bool false, .bool false, .int .i64 0, .int .i64 0, .int .i64 a1, .int .u32 a0, .int .u32 0, .slice none 0 0, .slice none 0 0, .int .i64 a2, .int .i64 0, .int .i64 0, .int .i64 0, .int .i64 a3, .int .i64 0, .pointer none]] rfl (by (try simp only [List.map_toArray, List.map_cons, List.map_nil]); first | done | rfl | (simp only [List.length_drop, List.length_take]; rfl)) ?_; (refine (reply_May.calls 0 0 false false 0 0 a1 a0 0 _ _ ([] : List Int) _ _ ([] : List Int) a2 0 0 0 a3 0 none t161 _ ?side1 ?side2 ?side3 ?side4 A199.out).mono ?_); (case side1 => exact Kd.C_nil _ _); (case side2 => exact Nat.le_refl _); (case side3 => exact Kd.C_nil _ _); (case side4 => exact Nat.le_refl _); rintro e w1 ⟨rfl, hb⟩; refine ⟨_, rfl, ?_⟩; replace HO := Aside0.mk (HO.out.step hb); clear HF; have HF := HO.out.facts; simp only [Owns.Facts, and_true] at HF) | (go_at_call 12; (with_reducible refine (castellanlaw19_known.calls  t162 _ A201.out).mono ?_); rintro e w1 ⟨rfl, hb⟩; replace HO := Aside0.mk (HO.out.step hb); clear HF; have HF := HO.out.facts; simp only [Owns.Facts, and_true] at HF))
                          go_ret
                          exact ⟨by first | rfl | (simp; done) | (simp [*]; done), HO.out.below⟩
                        · rw [if_neg c200] at H
                          have c200b0 : (t161 == (!false)) = false := by simpa using c200
                          have c200n0 : (t161) = false := by simpa using c200b0
                          (try (have c200b1 : decide (t161 = (!false)) = false := by simpa using c200))
                          (try (have c200b2 : (t161 == (!false)) = false := by simpa using c200))
                          (try (have c200b3 : ¬ (t161 = (!false)) := by simpa using c200))
                          clear c200
                          exact absurd (H.trans (congrArg some HRT.out)) (by simp)
              · rw [if_neg c157] at H
                have c157b0 : (a3 == 11) = false := beq_eq_false_iff_ne.mpr c157
                have c157b1 : (a3 != 11) = true := bne_iff_ne.mpr c157
                by_cases c206 : a2 = 2
                · rw [if_pos c206] at H
                  have c206b0 : (a2 == 2) = true := beq_iff_eq.mpr c206
                  have c206b1 : (a2 != 2) = false := bne_eq_false_iff_eq.mpr c206
                  clear c206
                  replace H := Option.bind_eq_some_iff.mp H
                  obtain ⟨t163, A2070, H⟩ := H
                  replace H : (if (t163 == (!true)) = true then ((castellanlaw19_known.f).bind fun t164 => (some t164)) else (some false)) = some r := H
                  have A207 := Aside0.mk A2070
                  clear A2070
                  by_cases c208 : (t163 == (!true)) = true
                  · rw [if_pos c208] at H
                    have c208b0 : (t163 == (!true)) = true := c208
                    have c208n0 : (t163) = false := by simpa using c208b0
                    (try (have c208b1 : decide (t163 = (!true)) = true := by simpa using c208))
                    (try (have c208b2 : (t163 == (!true)) = true := by simpa using c208))
                    clear c208
                    replace H := Option.bind_eq_some_iff.mp H
                    obtain ⟨t164, A2090, H⟩ := H
                    replace H : (some t164) = some r := H
                    have A209 := Aside0.mk A2090
                    clear A2090
                    obtain rfl := Option.some.inj H
                    have HO := Aside0.mk (Owns.nil_of HB.out)
                    have HF : True := trivial
                    go_wp2_with (first | ((with_reducible refine gate_dst (N := 9) rfl ?_); refine ow_box HO rfl (N := 9) rfl #[.int .i64 0, .int .i64 0, .bool false, .bool false, .int .i64 0, .int .i64 0, .int .i64 0, .int .u32 0, .int .u32 0, .slice none 0 0, .slice none 0 0, .int .i64 0, .int .i64 0, .int .i64 0, .int .i64 0, .int .i64 0, .int .i64 0, .pointer none] 29 ?hr rfl ?_; (case hr => first | (go_simp; done) | (go_simp; rfl)); clear HO HF; intro g9 w1 HO; have HF := HO.out.facts; simp only [Owns.Facts, and_true] at HF) | ((with_reducible refine gate_store (p := 9) rfl ?_); (first | refine ow_put HO rfl rfl 0 rfl (ty := 29) rfl _ rfl rfl (by kernel_rfl) rfl rfl ?_); clear HO HF; intro w1 HO; simp only [List.set_cons_zero, List.set_cons_succ, List.setIfInBounds_toArray] at HO; have HF := HO.out.facts; simp only [Owns.Facts, and_true] at HF) | ((with_reducible refine gate_dst (N := 65) rfl ?_); (first | refine ow_load HO rfl 0 rfl 29 _ rfl _ rfl Try.underlying29 rfl (by kernel_rfl) ?_)) | ((with_reducible refine gate_callee (f := 14) rfl ?_); refine goesL_ (some 66) rfl rfl Try.func14 (by kernel_rfl) rfl #[.agg #[.int .i64 0, .int .i64 0, .bool false, .bool false, .int .i64 0, .int .i64 0, .int .i64 a1, .int .u32 a0, .int .u32 0, .slice none 0 0, .slice none 0 0, .int .i64 a2, .int .i64 0, .int .i64 0, .int .i64 0, .int .i64 a3, .int .i64 0, .pointer none]] rfl (by (try simp only [List.map_toArray, List.map_cons, List.map_nil]); first | done | rfl | (simp only [List.length_drop, List.length_take]; rfl)) ?_; (refine (reply_May.calls 0 0 false false 0 0 a1 a0 0 _ _ ([] : List Int) _ _ ([] : List Int) a2 0 0 0 a3 0 none t163 _ ?side1 ?side2 ?side3 ?side4 A207.out).mono ?_); (case side1 => exact Kd.C_nil _ _); (case side2 => exact Nat.le_refl _); (case side3 => exact Kd.C_nil _ _); (case side4 => exact Nat.le_refl _); rintro e w1 ⟨rfl, hb⟩; refine ⟨_, rfl, ?_⟩; replace HO := Aside0.mk (HO.out.step hb); clear HF; have HF := HO.out.facts; simp only [Owns.Facts, and_true] at HF) | (go_at_call 12; (with_reducible refine (castellanlaw19_known.calls  t164 _ A209.out).mono ?_); rintro e w1 ⟨rfl, hb⟩; replace HO := Aside0.mk (HO.out.step hb); clear HF; have HF := HO.out.facts; simp only [Owns.Facts, and_true] at HF))
                    go_ret
                    exact ⟨by first | rfl | (simp; done) | (simp [*]; done), HO.out.below⟩
                  · rw [if_neg c208] at H
                    have c208b0 : (t163 == (!true)) = false := by simpa using c208
                    have c208n0 : (t163) = true := by simpa using c208b0
                    (try (have c208b1 : decide (t163 = (!true)) = false := by simpa using c208))
                    (try (have c208b2 : (t163 == (!true)) = false := by simpa using c208))
                    (try (have c208b3 : ¬ (t163 = (!true)) := by simpa using c208))
                    clear c208
                    exact absurd (H.trans (congrArg some HRT.out)) (by simp)
                · rw [if_neg c206] at H
                  have c206b0 : (a2 == 2) = false := beq_eq_false_iff_ne.mpr c206
                  have c206b1 : (a2 != 2) = true := bne_iff_ne.mpr c206
                  by_cases c214 : (a0 / 16777216) = 0
                  · rw [if_pos c214] at H
                    have c214b0 : ((a0 / 16777216) == 0) = true := beq_iff_eq.mpr c214
                    have c214b1 : ((a0 / 16777216) != 0) = false := bne_eq_false_iff_eq.mpr c214
                    clear c214
                    replace H := Option.bind_eq_some_iff.mp H
                    obtain ⟨t165, A2150, H⟩ := H
                    replace H : (if (t165 == (!true)) = true then ((castellanlaw19_known.f).bind fun t166 => (some t166)) else (some false)) = some r := H
                    have A215 := Aside0.mk A2150
                    clear A2150
                    by_cases c216 : (t165 == (!true)) = true
                    · rw [if_pos c216] at H
                      have c216b0 : (t165 == (!true)) = true := c216
                      have c216n0 : (t165) = false := by simpa using c216b0
                      (try (have c216b1 : decide (t165 = (!true)) = true := by simpa using c216))
                      (try (have c216b2 : (t165 == (!true)) = true := by simpa using c216))
                      clear c216
                      replace H := Option.bind_eq_some_iff.mp H
                      obtain ⟨t166, A2170, H⟩ := H
                      replace H : (some t166) = some r := H
                      have A217 := Aside0.mk A2170
                      clear A2170
                      obtain rfl := Option.some.inj H
                      have HO := Aside0.mk (Owns.nil_of HB.out)
                      have HF : True := trivial
                      go_wp2_with (first | ((with_reducible refine gate_dst (N := 9) rfl ?_); refine ow_box HO rfl (N := 9) rfl #[.int .i64 0, .int .i64 0, .bool false, .bool false, .int .i64 0, .int .i64 0, .int .i64 0, .int .u32 0, .int .u32 0, .slice none 0 0, .slice none 0 0, .int .i64 0, .int .i64 0, .int .i64 0, .int .i64 0, .int .i64 0, .int .i64 0, .pointer none] 29 ?hr rfl ?_; (case hr => first | (go_simp; done) | (go_simp; rfl)); clear HO HF; intro g9 w1 HO; have HF := HO.out.facts; simp only [Owns.Facts, and_true] at HF) | ((with_reducible refine gate_store (p := 9) rfl ?_); (first | refine ow_put HO rfl rfl 0 rfl (ty := 29) rfl _ rfl rfl (by kernel_rfl) rfl rfl ?_); clear HO HF; intro w1 HO; simp only [List.set_cons_zero, List.set_cons_succ, List.setIfInBounds_toArray] at HO; have HF := HO.out.facts; simp only [Owns.Facts, and_true] at HF) | ((with_reducible refine gate_dst (N := 65) rfl ?_); (first | refine ow_load HO rfl 0 rfl 29 _ rfl _ rfl Try.underlying29 rfl (by kernel_rfl) ?_)) | ((with_reducible refine gate_callee (f := 14) rfl ?_); refine goesL_ (some 66) rfl rfl Try.func14 (by kernel_rfl) rfl #[.agg #[.int .i64 0, .int .i64 0, .bool false, .bool false, .int .i64 0, .int .i64 0, .int .i64 a1, .int .u32 a0, .int .u32 0, .slice none 0 0, .slice none 0 0, .int .i64 a2, .int .i64 0, .int .i64 0, .int .i64 0, .int .i64 a3, .int .i64 0, .pointer none]] rfl (by (try simp only [List.map_toArray, List.map_cons, List.map_nil]); first | done | rfl | (simp only [List.length_drop, List.length_take]; rfl)) ?_; (refine (reply_May.calls 0 0 false false 0 0 a1 a0 0 _ _ ([] : List Int) _ _ ([] : List Int) a2 0 0 0 a3 0 none t165 _ ?side1 ?side2 ?side3 ?side4 A215.out).mono ?_); (case side1 => exact Kd.C_nil _ _); (case side2 => exact Nat.le_refl _); (case side3 => exact Kd.C_nil _ _); (case side4 => exact Nat.le_refl _); rintro e w1 ⟨rfl, hb⟩; refine ⟨_, rfl, ?_⟩; replace HO := Aside0.mk (HO.out.step hb); clear HF; have HF := HO.out.facts; simp only [Owns.Facts, and_true] at HF) | (go_at_call 12; (with_reducible refine (castellanlaw19_known.calls  t166 _ A217.out).mono ?_); rintro e w1 ⟨rfl, hb⟩; replace HO := Aside0.mk (HO.out.step hb); clear HF; have HF := HO.out.facts; simp only [Owns.Facts, and_true] at HF))
                      go_ret
                      exact ⟨by first | rfl | (simp; done) | (simp [*]; done), HO.out.below⟩
                    · rw [if_neg c216] at H
                      have c216b0 : (t165 == (!true)) = false := by simpa using c216
                      have c216n0 : (t165) = true := by simpa using c216b0
                      (try (have c216b1 : decide (t165 = (!true)) = false := by simpa using c216))
                      (try (have c216b2 : (t165 == (!true)) = false := by simpa using c216))
                      (try (have c216b3 : ¬ (t165 = (!true)) := by simpa using c216))
                      clear c216
                      exact absurd (H.trans (congrArg some HRT.out)) (by simp)
                  · rw [if_neg c214] at H
                    have c214b0 : ((a0 / 16777216) == 0) = false := beq_eq_false_iff_ne.mpr c214
                    have c214b1 : ((a0 / 16777216) != 0) = true := bne_iff_ne.mpr c214
                    replace H := Option.bind_eq_some_iff.mp H
                    obtain ⟨t167, A2220, H⟩ := H
                    replace H : (if t167 = true then ((reply_May.f 0 0 false false 0 0 a1 a0 0 ([] : List Int) ([] : List Int) a2 0 0 0 a3 0 none).bind fun t168 => (if (t168 == (!true)) = true then ((castellanlaw19_known.f).bind fun t169 => (some t169)) else (some false))) else (if a1 = 1 then (if a2 = 1 then ((reply_May.f 0 0 false false 0 0 a1 a0 0 ([] : List Int) ([] : List Int) a2 0 0 0 a3 0 none).bind fun t170 => (if (t170 == (!true)) = true then ((castellanlaw19_known.f).bind fun t171 => (some t171)) else (some false))) else ((reply_May.f 0 0 false false 0 0 a1 a0 0 ([] : List Int) ([] : List Int) a2 0 0 0 a3 0 none).bind fun t172 => (if (t172 == (!(a3 == 12))) = true then ((castellanlaw19_known.f).bind fun t173 => (some t173)) else (some false)))) else ((reply_May.f 0 0 false false 0 0 a1 a0 0 ([] : List Int) ([] : List Int) a2 0 0 0 a3 0 none).bind fun t174 => (if (t174 == (!false)) = true then ((castellanlaw19_known.f).bind fun t175 => (some t175)) else (some false))))) = some r := H
                    have A222 := Aside0.mk A2220
                    clear A2220
                    by_cases c223 : t167 = true
                    · subst c223
                      have H1 : ((reply_May.f 0 0 false false 0 0 a1 a0 0 ([] : List Int) ([] : List Int) a2 0 0 0 a3 0 none).bind fun t168 => (if (t168 == (!true)) = true then ((castellanlaw19_known.f).bind fun t169 => (some t169)) else (some false))) = some r := by rw [if_pos rfl] at H; exact H
                      clear H
                      have H := H1
                      clear H1
                      replace H := Option.bind_eq_some_iff.mp H
                      obtain ⟨t168, A2240, H⟩ := H
                      replace H : (if (t168 == (!true)) = true then ((castellanlaw19_known.f).bind fun t169 => (some t169)) else (some false)) = some r := H
                      have A224 := Aside0.mk A2240
                      clear A2240
                      by_cases c225 : (t168 == (!true)) = true
                      · rw [if_pos c225] at H
                        have c225b0 : (t168 == (!true)) = true := c225
                        have c225n0 : (t168) = false := by simpa using c225b0
                        (try (have c225b1 : decide (t168 = (!true)) = true := by simpa using c225))
                        (try (have c225b2 : (t168 == (!true)) = true := by simpa using c225))
                        clear c225
                        replace H := Option.bind_eq_some_iff.mp H
                        obtain ⟨t169, A2260, H⟩ := H
                        replace H : (some t169) = some r := H
                        have A226 := Aside0.mk A2260
                        clear A2260
                        obtain rfl := Option.some.inj H
                        have HO := Aside0.mk (Owns.nil_of HB.out)
                        have HF : True := trivial
                        go_wp2_with (first | ((with_reducible refine gate_dst (N := 9) rfl ?_); refine ow_box HO rfl (N := 9) rfl #[.int .i64 0, .int .i64 0, .bool false, .bool false, .int .i64 0, .int .i64 0, .int .i64 0, .int .u32 0, .int .u32 0, .slice none 0 0, .slice none 0 0, .int .i64 0, .int .i64 0, .int .i64 0, .int .i64 0, .int .i64 0, .int .i64 0, .pointer none] 29 ?hr rfl ?_; (case hr => first | (go_simp; done) | (go_simp; rfl)); clear HO HF; intro g9 w1 HO; have HF := HO.out.facts; simp only [Owns.Facts, and_true] at HF) | ((with_reducible refine gate_store (p := 9) rfl ?_); (first | refine ow_put HO rfl rfl 0 rfl (ty := 29) rfl _ rfl rfl (by kernel_rfl) rfl rfl ?_); clear HO HF; intro w1 HO; simp only [List.set_cons_zero, List.set_cons_succ, List.setIfInBounds_toArray] at HO; have HF := HO.out.facts; simp only [Owns.Facts, and_true] at HF) | ((with_reducible refine gate_dst (N := 65) rfl ?_); (first | refine ow_load HO rfl 0 rfl 29 _ rfl _ rfl Try.underlying29 rfl (by kernel_rfl) ?_)) | (go_at_call 13; (with_reducible refine (castellanref3_Cast.calls a0 true _ A222.out).mono ?_); rintro e w1 ⟨rfl, hd⟩; replace HO := Aside0.mk (HO.out.drawn hd); clear HF; have HF := HO.out.facts; simp only [Owns.Facts, and_true] at HF) | ((with_reducible refine gate_callee (f := 14) rfl ?_); refine goesL_ (some 66) rfl rfl Try.func14 (by kernel_rfl) rfl #[.agg #[.int .i64 0, .int .i64 0, .bool false, .bool false, .int .i64 0, .int .i64 0, .int .i64 a1, .int .u32 a0, .int .u32 0, .slice none 0 0, .slice none 0 0, .int .i64 a2, .int .i64 0, .int .i64 0, .int .i64 0, .int .i64 a3, .int .i64 0, .pointer none]] rfl (by (try simp only [List.map_toArray, List.map_cons, List.map_nil]); first | done | rfl | (simp only [List.length_drop, List.length_take]; rfl)) ?_; (refine (reply_May.calls 0 0 false false 0 0 a1 a0 0 _ _ ([] : List Int) _ _ ([] : List Int) a2 0 0 0 a3 0 none t168 _ ?side1 ?side2 ?side3 ?side4 A224.out).mono ?_); (case side1 => exact Kd.C_nil _ _); (case side2 => exact Nat.le_refl _); (case side3 => exact Kd.C_nil _ _); (case side4 => exact Nat.le_refl _); rintro e w1 ⟨rfl, hb⟩; refine ⟨_, rfl, ?_⟩; replace HO := Aside0.mk (HO.out.step hb); clear HF; have HF := HO.out.facts; simp only [Owns.Facts, and_true] at HF) | (go_at_call 12; (with_reducible refine (castellanlaw19_known.calls  t169 _ A226.out).mono ?_); rintro e w1 ⟨rfl, hb⟩; replace HO := Aside0.mk (HO.out.step hb); clear HF; have HF := HO.out.facts; simp only [Owns.Facts, and_true] at HF))
                        go_ret
                        exact ⟨by first | rfl | (simp; done) | (simp [*]; done), HO.out.below⟩
                      · rw [if_neg c225] at H
                        have c225b0 : (t168 == (!true)) = false := by simpa using c225
                        have c225n0 : (t168) = true := by simpa using c225b0
                        (try (have c225b1 : decide (t168 = (!true)) = false := by simpa using c225))
                        (try (have c225b2 : (t168 == (!true)) = false := by simpa using c225))
                        (try (have c225b3 : ¬ (t168 = (!true)) := by simpa using c225))
                        clear c225
                        exact absurd (H.trans (congrArg some HRT.out)) (by simp)
                    · replace c223 := Bool.eq_false_iff.mpr c223
                      subst c223
                      have H1 : (if a1 = 1 then (if a2 = 1 then ((reply_May.f 0 0 false false 0 0 a1 a0 0 ([] : List Int) ([] : List Int) a2 0 0 0 a3 0 none).bind fun t170 => (if (t170 == (!true)) = true then ((castellanlaw19_known.f).bind fun t171 => (some t171)) else (some false))) else ((reply_May.f 0 0 false false 0 0 a1 a0 0 ([] : List Int) ([] : List Int) a2 0 0 0 a3 0 none).bind fun t172 => (if (t172 == (!(a3 == 12))) = true then ((castellanlaw19_known.f).bind fun t173 => (some t173)) else (some false)))) else ((reply_May.f 0 0 false false 0 0 a1 a0 0 ([] : List Int) ([] : List Int) a2 0 0 0 a3 0 none).bind fun t174 => (if (t174 == (!false)) = true then ((castellanlaw19_known.f).bind fun t175 => (some t175)) else (some false)))) = some r := by rw [if_neg (show ¬ (false = true) by decide)] at H; exact H
                      clear H
                      have H := H1
                      clear H1
                      by_cases c231 : a1 = 1
                      · rw [if_pos c231] at H
                        have c231b0 : (a1 == 1) = true := beq_iff_eq.mpr c231
                        have c231b1 : (a1 != 1) = false := bne_eq_false_iff_eq.mpr c231
                        clear c231
                        by_cases c232 : a2 = 1
                        · rw [if_pos c232] at H
                          have c232b0 : (a2 == 1) = true := beq_iff_eq.mpr c232
                          have c232b1 : (a2 != 1) = false := bne_eq_false_iff_eq.mpr c232
                          clear c232
                          replace H := Option.bind_eq_some_iff.mp H
                          obtain ⟨t170, A2330, H⟩ := H
                          replace H : (if (t170 == (!true)) = true then ((castellanlaw19_known.f).bind fun t171 => (some t171)) else (some false)) = some r := H
                          have A233 := Aside0.mk A2330
                          clear A2330
                          by_cases c234 : (t170 == (!true)) = true
                          · rw [if_pos c234] at H
                            have c234b0 : (t170 == (!true)) = true := c234
                            have c234n0 : (t170) = false := by simpa using c234b0
                            (try (have c234b1 : decide (t170 = (!true)) = true := by simpa using c234))
                            (try (have c234b2 : (t170 == (!true)) = true := by simpa using c234))
                            clear c234
                            replace H := Option.bind_eq_some_iff.mp H
                            obtain ⟨t171, A2350, H⟩ := H
                            replace H : (some t171) = some r := H
                            have A235 := Aside0.mk A2350
                            clear A2350
                            obtain rfl := Option.some.inj H
                            have HO := Aside0.mk (Owns.nil_of HB.out)
                            have HF : True := trivial
                            go_wp2_with (first | ((with_reducible refine gate_dst (N := 9) rfl ?_); refine ow_box HO rfl (N := 9) rfl #[.int .i64 0, .int .i64 0, .bool false, .bool false, .int .i64 0, .int .i64 0, .int .i64 0, .int .u32 0, .int .u32 0, .slice none 0 0, .slice none 0 0, .int .i64 0, .int .i64 0, .int .i64 0, .int .i64 0, .int .i64 0, .int .i64 0, .pointer none] 29 ?hr rfl ?_; (case hr => first | (go_simp; done) | (go_simp; rfl)); clear HO HF; intro g9 w1 HO; have HF := HO.out.facts; simp only [Owns.Facts, and_true] at HF) | ((with_reducible refine gate_store (p := 9) rfl ?_); (first | refine ow_put HO rfl rfl 0 rfl (ty := 29) rfl _ rfl rfl (by kernel_rfl) rfl rfl ?_); clear HO HF; intro w1 HO; simp only [List.set_cons_zero, List.set_cons_succ, List.setIfInBounds_toArray] at HO; have HF := HO.out.facts; simp only [Owns.Facts, and_true] at HF) | ((with_reducible refine gate_dst (N := 65) rfl ?_); (first | refine ow_load HO rfl 0 rfl 29 _ rfl _ rfl Try.underlying29 rfl (by kernel_rfl) ?_)) | (go_at_call 13; (with_reducible refine (castellanref3_Cast.calls a0 false _ A222.out).mono ?_); rintro e w1 ⟨rfl, hd⟩; replace HO := Aside0.mk (HO.out.drawn hd); clear HF; have HF := HO.out.facts; simp only [Owns.Facts, and_true] at HF) | ((with_reducible refine gate_callee (f := 14) rfl ?_); refine goesL_ (some 66) rfl rfl Try.func14 (by kernel_rfl) rfl #[.agg #[.int .i64 0, .int .i64 0, .bool false, .bool false, .int .i64 0, .int .i64 0, .int .i64 a1, .int .u32 a0, .int .u32 0, .slice none 0 0, .slice none 0 0, .int .i64 a2, .int .i64 0, .int .i64 0, .int .i64 0, .int .i64 a3, .int .i64 0, .pointer none]] rfl (by (try simp only [List.map_toArray, List.map_cons, List.map_nil]); first | done | rfl | (simp only [List.length_drop, List.length_take]; rfl)) ?_; (refine (reply_May.calls 0 0 false false 0 0 a1 a0 0 _ _ ([] : List Int) _ _ ([] : List Int) a2 0 0 0 a3 0 none t170 _ ?side1 ?side2 ?side3 ?side4 A233.out).mono ?_); (case side1 => exact Kd.C_nil _ _); (case side2 => exact Nat.le_refl _); (case side3 => exact Kd.C_nil _ _); (case side4 => exact Nat.le_refl _); rintro e w1 ⟨rfl, hb⟩; refine ⟨_, rfl, ?_⟩; replace HO := Aside0.mk (HO.out.step hb); clear HF; have HF := HO.out.facts; simp only [Owns.Facts, and_true] at HF) | (go_at_call 12; (with_reducible refine (castellanlaw19_known.calls  t171 _ A235.out).mono ?_); rintro e w1 ⟨rfl, hb⟩; replace HO := Aside0.mk (HO.out.step hb); clear HF; have HF := HO.out.facts; simp only [Owns.Facts, and_true] at HF))
                            go_ret
                            exact ⟨by first | rfl | (simp; done) | (simp [*]; done), HO.out.below⟩
                          · rw [if_neg c234] at H
                            have c234b0 : (t170 == (!true)) = false := by simpa using c234
                            have c234n0 : (t170) = true := by simpa using c234b0
                            (try (have c234b1 : decide (t170 = (!true)) = false := by simpa using c234))
                            (try (have c234b2 : (t170 == (!true)) = false := by simpa using c234))
                            (try (have c234b3 : ¬ (t170 = (!true)) := by simpa using c234))
                            clear c234
                            exact absurd (H.trans (congrArg some HRT.out)) (by simp)
                        · rw [if_neg c232] at H
                          have c232b0 : (a2 == 1) = false := beq_eq_false_iff_ne.mpr c232
                          have c232b1 : (a2 != 1) = true := bne_iff_ne.mpr c232
                          replace H := Option.bind_eq_some_iff.mp H
                          obtain ⟨t172, A2400, H⟩ := H
                          replace H : (if (t172 == (!(a3 == 12))) = true then ((castellanlaw19_known.f).bind fun t173 => (some t173)) else (some false)) = some r := H
                          have A240 := Aside0.mk A2400
                          clear A2400
                          by_cases c241 : (t172 == (!(a3 == 12))) = true
                          · rw [if_pos c241] at H
                            have c241b0 : (t172 == (!(a3 == 12))) = true := c241
                            (try (have c241b1 : decide (t172 = (!(a3 == 12))) = true := by simpa using c241))
                            (try (have c241b2 : (t172 == (!(a3 == 12))) = true := by simpa using c241))
                            clear c241
                            replace H := Option.bind_eq_some_iff.mp H
                            obtain ⟨t173, A2420, H⟩ := H
                            replace H : (some t173) = some r := H
                            have A242 := Aside0.mk A2420
                            clear A2420
                            obtain rfl := Option.some.inj H
                            have HO := Aside0.mk (Owns.nil_of HB.out)
                            have HF : True := trivial
                            go_wp2_with (first | ((with_reducible refine gate_dst (N := 9) rfl ?_); refine ow_box HO rfl (N := 9) rfl #[.int .i64 0, .int .i64 0, .bool false, .bool false, .int .i64 0, .int .i64 0, .int .i64 0, .int .u32 0, .int .u32 0, .slice none 0 0, .slice none 0 0, .int .i64 0, .int .i64 0, .int .i64 0, .int .i64 0, .int .i64 0, .int .i64 0, .pointer none] 29 ?hr rfl ?_; (case hr => first | (go_simp; done) | (go_simp; rfl)); clear HO HF; intro g9 w1 HO; have HF := HO.out.facts; simp only [Owns.Facts, and_true] at HF) | ((with_reducible refine gate_store (p := 9) rfl ?_); (first | refine ow_put HO rfl rfl 0 rfl (ty := 29) rfl _ rfl rfl (by kernel_rfl) rfl rfl ?_); clear HO HF; intro w1 HO; simp only [List.set_cons_zero, List.set_cons_succ, List.setIfInBounds_toArray] at HO; have HF := HO.out.facts; simp only [Owns.Facts, and_true] at HF) | ((with_reducible refine gate_dst (N := 65) rfl ?_); (first | refine ow_load HO rfl 0 rfl 29 _ rfl _ rfl Try.underlying29 rfl (by kernel_rfl) ?_)) | (go_at_call 13; (with_reducible refine (castellanref3_Cast.calls a0 false _ A222.out).mono ?_); rintro e w1 ⟨rfl, hd⟩; replace HO := Aside0.mk (HO.out.drawn hd); clear HF; have HF := HO.out.facts; simp only [Owns.Facts, and_true] at HF) | ((with_reducible refine gate_callee (f := 14) rfl ?_); refine goesL_ (some 66) rfl rfl Try.func14 (by kernel_rfl) rfl #[.agg #[.int .i64 0, .int .i64 0, .bool false, .bool false, .int .i64 0, .int .i64 0, .int .i64 a1, .int .u32 a0, .int .u32 0, .slice none 0 0, .slice none 0 0, .int .i64 a2, .int .i64 0, .int .i64 0, .int .i64 0, .int .i64 a3, .int .i64 0, .pointer none]] rfl (by (try simp only [List.map_toArray, List.map_cons, List.map_nil]); first | done | rfl | (simp only [List.length_drop, List.length_take]; rfl)) ?_; (refine (reply_May.calls 0 0 false false 0 0 a1 a0 0 _ _ ([] : List Int) _ _ ([] : List Int) a2 0 0 0 a3 0 none t172 _ ?side1 ?side2 ?side3 ?side4 A240.out).mono ?_); (case side1 => exact Kd.C_nil _ _); (case side2 => exact Nat.le_refl _); (case side3 => exact Kd.C_nil _ _); (case side4 => exact Nat.le_refl _); rintro e w1 ⟨rfl, hb⟩; refine ⟨_, rfl, ?_⟩; replace HO := Aside0.mk (HO.out.step hb); clear HF; have HF := HO.out.facts; simp only [Owns.Facts, and_true] at HF) | (go_at_call 12; (with_reducible refine (castellanlaw19_known.calls  t173 _ A242.out).mono ?_); rintro e w1 ⟨rfl, hb⟩; replace HO := Aside0.mk (HO.out.step hb); clear HF; have HF := HO.out.facts; simp only [Owns.Facts, and_true] at HF))
                            go_ret
                            exact ⟨by first | rfl | (simp; done) | (simp [*]; done), HO.out.below⟩
                          · rw [if_neg c241] at H
                            have c241b0 : (t172 == (!(a3 == 12))) = false := by simpa using c241
                            (try (have c241b1 : decide (t172 = (!(a3 == 12))) = false := by simpa using c241))
                            (try (have c241b2 : (t172 == (!(a3 == 12))) = false := by simpa using c241))
                            (try (have c241b3 : ¬ (t172 = (!(a3 == 12))) := by simpa using c241))
                            clear c241
                            exact absurd (H.trans (congrArg some HRT.out)) (by simp)
                      · rw [if_neg c231] at H
                        have c231b0 : (a1 == 1) = false := beq_eq_false_iff_ne.mpr c231
                        have c231b1 : (a1 != 1) = true := bne_iff_ne.mpr c231
                        replace H := Option.bind_eq_some_iff.mp H
                        obtain ⟨t174, A2470, H⟩ := H
                        replace H : (if (t174 == (!false)) = true then ((castellanlaw19_known.f).bind fun t175 => (some t175)) else (some false)) = some r := H
                        have A247 := Aside0.mk A2470
                        clear A2470
                        by_cases c248 : (t174 == (!false)) = true
                        · rw [if_pos c248] at H
                          have c248b0 : (t174 == (!false)) = true := c248
                          have c248n0 : (t174) = true := by simpa using c248b0
                          (try (have c248b1 : decide (t174 = (!false)) = true := by simpa using c248))
                          (try (have c248b2 : (t174 == (!false)) = true := by simpa using c248))
                          clear c248
                          replace H := Option.bind_eq_some_iff.mp H
                          obtain ⟨t175, A2490, H⟩ := H
                          replace H : (some t175) = some r := H
                          have A249 := Aside0.mk A2490
                          clear A2490
                          obtain rfl := Option.some.inj H
                          have HO := Aside0.mk (Owns.nil_of HB.out)
                          have HF : True := trivial
                          go_wp2_with (first | ((with_reducible refine gate_dst (N := 9) rfl ?_); refine ow_box HO rfl (N := 9) rfl #[.int .i64 0, .int .i64 0, .bool false, .bool false, .int .i64 0, .int .i64 0, .int .i64 0, .int .u32 0, .int .u32 0, .slice none 0 0, .slice none 0 0, .int .i64 0, .int .i64 0, .int .i64 0, .int .i64 0, .int .i64 0, .int .i64 0, .pointer none] 29 ?hr rfl ?_; (case hr => first | (go_simp; done) | (go_simp; rfl)); clear HO HF; intro g9 w1 HO; have HF := HO.out.facts; simp only [Owns.Facts, and_true] at HF) | ((with_reducible refine gate_store (p := 9) rfl ?_); (first | refine ow_put HO rfl rfl 0 rfl (ty := 29) rfl _ rfl rfl (by kernel_rfl) rfl rfl ?_); clear HO HF; intro w1 HO; simp only [List.set_cons_zero, List.set_cons_succ, List.setIfInBounds_toArray] at HO; have HF := HO.out.facts; simp only [Owns.Facts, and_true] at HF) | ((with_reducible refine gate_dst (N := 65) rfl ?_); (first | refine ow_load HO rfl 0 rfl 29 _ rfl _ rfl Try.underlying29 rfl (by kernel_rfl) ?_)) | (go_at_call 13; (with_reducible refine (castellanref3_Cast.calls a0 false _ A222.out).mono ?_); rintro e w1 ⟨rfl, hd⟩; replace HO := Aside0.mk (HO.out.drawn hd); clear HF; have HF := HO.out.facts; simp only [Owns.Facts, and_true] at HF) | ((with_reducible refine gate_callee (f := 14) rfl ?_); refine goesL_ (some 66) rfl rfl Try.func14 (by kernel_rfl) rfl #[.agg #[.int .i64 0, .int .i64 0, .bool false, .bool false, .int .i64 0, .int .i64 0, .int .i64 a1, .int .u32 a0, .int .u32 0, .slice none 0 0, .slice none 0 0, .int .i64 a2, .int .i64 0, .int .i64 0, .int .i64 0, .int .i64 a3, .int .i64 0, .pointer none]] rfl (by (try simp only [List.map_toArray, List.map_cons, List.map_nil]); first | done | rfl | (simp only [List.length_drop, List.length_take]; rfl)) ?_; (refine (reply_May.calls 0 0 false false 0 0 a1 a0 0 _ _ ([] : List Int) _ _ ([] : List Int) a2 0 0 0 a3 0 none t174 _ ?side1 ?side2 ?side3 ?side4 A247.out).mono ?_); (case side1 => exact Kd.C_nil _ _); (case side2 => exact Nat.le_refl _); (case side3 => exact Kd.C_nil _ _); (case side4 => exact Nat.le_refl _); rintro e w1 ⟨rfl, hb⟩; refine ⟨_, rfl, ?_⟩; replace HO := Aside0.mk (HO.out.step hb); clear HF; have HF := HO.out.facts; simp only [Owns.Facts, and_true] at HF) | (go_at_call 12; (with_reducible refine (castellanlaw19_known.calls  t175 _ A249.out).mono ?_); rintro e w1 ⟨rfl, hb⟩; replace HO := Aside0.mk (HO.out.step hb); clear HF; have HF := HO.out.facts; simp only [Owns.Facts, and_true] at HF))
                          go_ret
                          exact ⟨by first | rfl | (simp; done) | (simp [*]; done), HO.out.below⟩
                        · rw [if_neg c248] at H
                          have c248b0 : (t174 == (!false)) = false := by simpa using c248
                          have c248n0 : (t174) = false := by simpa using c248b0
                          (try (have c248b1 : decide (t174 = (!false)) = false := by simpa using c248))
                          (try (have c248b2 : (t174 == (!false)) = false := by simpa using c248))
                          (try (have c248b3 : ¬ (t174 = (!false)) := by simpa using c248))
                          clear c248
                          exact absurd (H.trans (congrArg some HRT.out)) (by simp)

/-- THE ONE PURE STATEMENT of castellanlaw19_ReplyMay: yours. -/
def castellanlaw19_ReplyMay.Pure : Prop := ∀ (a0 : Int) (a1 : Int) (a2 : Int) (a3 : Int), (Lit.int .u32 a0).wf = true → (Lit.int .i64 a1).wf = true → (Lit.int .i64 a2).wf = true → (Lit.int .i64 a3).wf = true → ∃ k, castellanlaw19_ReplyMay.f k a0 a1 a2 a3 = some true
theorem castellanlaw19_ReplyMay.walk (P : castellanlaw19_ReplyMay.Pure) (a0 : Int) (a1 : Int) (a2 : Int) (a3 : Int) (w : World) (w0 : (Lit.int .u32 a0).wf = true) (w1 : (Lit.int .i64 a1).wf = true) (w2 : (Lit.int .i64 a2).wf = true) (w3 : (Lit.int .i64 a3).wf = true) :
    Calls Try.prog 3 #[.int .u32 a0, .int .i64 a1, .int .i64 a2, .int .i64 a3] w fun e w' => e = .returned (.bool true) ∧ Below w.heap.size w w' := by
  obtain ⟨k, h⟩ := P a0 a1 a2 a3 w0 w1 w2 w3
  refine (castellanlaw19_ReplyMay.calls k a0 a1 a2 a3 true w rfl h).mono ?_
  rintro e w' ⟨rfl, hd⟩
  exact ⟨rfl, hd⟩

end Go.Proofs.Ytkdibloahkhgoaa.QReplyMay
