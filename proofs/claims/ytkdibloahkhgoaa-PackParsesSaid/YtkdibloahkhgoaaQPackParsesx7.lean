-- written by myprint.py, a program of this session's over the kit's printer
import Derived.Test.YtkdibloahkhgoaaQPackParsesx0
namespace Go.Proofs.Ytkdibloahkhgoaa.QPackParses
open Go.RowKit Go.Proofs.YtkdibloahkhgoaaW.PrintWords Go.Proofs.YtkdibloahkhgoaaW.PrintLast Go.Proofs.YtkdibloahkhgoaaW.PrintMore
attribute [local go_sem] max2_int min2_int max_two min_two max_three min_three max_four min_four   -- for this text's walks alone
set_option linter.unusedVariables false
set_option linter.unusedSimpArgs false

/-! ### castellanref7_Bad: function 94 -/
def castellanref7_Bad.f (a0 : Int) : Option (Bool) := if a0 = 3 then (some true) else (if a0 = 4 then (some true) else (if a0 = 5 then (some true) else (if a0 = 11 then (some true) else (some (a0 == 12)))))
set_option maxHeartbeats 8000000 in
set_option maxRecDepth 100000 in
theorem castellanref7_Bad.calls (a0 : Int) (r : Bool) (w : World) (h : castellanref7_Bad.f a0 = some r) :
  Calls Try.prog 94 #[.int .i64 a0] w fun e w' => e = .returned (.bool r) ∧ Drawn0 w w' := by
 have H : (if a0 = 3 then (some true) else (if a0 = 4 then (some true) else (if a0 = 5 then (some true) else (if a0 = 11 then (some true) else (some (a0 == 12)))))) = some r := h; clear h
 by_cases c2 : a0 = 3
 ·rw [if_pos c2] at H; have c2b0 : (a0 == 3) = true := beq_iff_eq.mpr c2; have c2b1 : (a0 != 3) = false := bne_eq_false_iff_eq.mpr c2; clear c2; obtain rfl := Option.some.inj H; go_enter Try.func94, Try.ntmps94; go_wp2; go_ret; exact ⟨by first | rfl | (simp; done) | (simp [*]; done), by repeat (first | exact Drawn0.refl _ | apply Drawn0.step)⟩
 ·rw [if_neg c2] at H; have c2b0 : (a0 == 3) = false := beq_eq_false_iff_ne.mpr c2; have c2b1 : (a0 != 3) = true := bne_iff_ne.mpr c2
  by_cases c3 : a0 = 4
  ·rw [if_pos c3] at H; have c3b0 : (a0 == 4) = true := beq_iff_eq.mpr c3; have c3b1 : (a0 != 4) = false := bne_eq_false_iff_eq.mpr c3; clear c3; obtain rfl := Option.some.inj H; go_enter Try.func94, Try.ntmps94; go_wp2; go_ret; exact ⟨by first | rfl | (simp; done) | (simp [*]; done), by repeat (first | exact Drawn0.refl _ | apply Drawn0.step)⟩
  ·rw [if_neg c3] at H; have c3b0 : (a0 == 4) = false := beq_eq_false_iff_ne.mpr c3; have c3b1 : (a0 != 4) = true := bne_iff_ne.mpr c3
   by_cases c4 : a0 = 5
   ·rw [if_pos c4] at H; have c4b0 : (a0 == 5) = true := beq_iff_eq.mpr c4; have c4b1 : (a0 != 5) = false := bne_eq_false_iff_eq.mpr c4; clear c4; obtain rfl := Option.some.inj H; go_enter Try.func94, Try.ntmps94; go_wp2; go_ret; exact ⟨by first | rfl | (simp; done) | (simp [*]; done), by repeat (first | exact Drawn0.refl _ | apply Drawn0.step)⟩
   ·rw [if_neg c4] at H; have c4b0 : (a0 == 5) = false := beq_eq_false_iff_ne.mpr c4; have c4b1 : (a0 != 5) = true := bne_iff_ne.mpr c4
    by_cases c5 : a0 = 11
    ·rw [if_pos c5] at H; have c5b0 : (a0 == 11) = true := beq_iff_eq.mpr c5; have c5b1 : (a0 != 11) = false := bne_eq_false_iff_eq.mpr c5; clear c5; obtain rfl := Option.some.inj H; go_enter Try.func94, Try.ntmps94; go_wp2; go_ret; exact ⟨by first | rfl | (simp; done) | (simp [*]; done), by repeat (first | exact Drawn0.refl _ | apply Drawn0.step)⟩
    ·rw [if_neg c5] at H; have c5b0 : (a0 == 11) = false := beq_eq_false_iff_ne.mpr c5; have c5b1 : (a0 != 11) = true := bne_iff_ne.mpr c5; obtain rfl := Option.some.inj H; go_enter Try.func94, Try.ntmps94; go_wp2; go_ret; exact ⟨by first | rfl | (simp; done) | (simp [*]; done), by repeat (first | exact Drawn0.refl _ | apply Drawn0.step)⟩

-- NOT PRINTED: function 95 (castellanref8_inner)

-- NOT PRINTED: function 79 (castellanref8_message)

-- NOT PRINTED: function 51 (castellanref8_inside)

end Go.Proofs.Ytkdibloahkhgoaa.QPackParses
