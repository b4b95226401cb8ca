-- written by myprint.py, a program of this session's over the kit's printer
import Derived.Test.YtkdibloahkhgoaaQPackFirstx0
import Derived.Test.YtkdibloahkhgoaaQPackFirstx1
import Derived.Test.YtkdibloahkhgoaaQPackFirstx2
import Derived.Test.YtkdibloahkhgoaaQPackFirstx7
import Derived.Test.YtkdibloahkhgoaaQPackFirstx9
namespace Go.Proofs.Ytkdibloahkhgoaa.QPackFirst
open Go.RowKit Go.Proofs.YtkdibloahkhgoaaW.PrintWords Go.Proofs.YtkdibloahkhgoaaW.PrintLast Go.Proofs.YtkdibloahkhgoaaW.PrintMore
attribute [local go_sem] max2_int min2_int max_two min_two max_three min_three max_four min_four   -- for this text's walks alone
set_option linter.unusedVariables false
set_option linter.unusedSimpArgs false

/-! ### castellanlaw8_PackFirst: function 10 -/
def castellanlaw8_PackFirst.j0 : Nat → Int → Int → Int → Bool → Bool → Option (Bool)
  | 0, _, _, _, _, _ => none
  | k + 1, x0, x1, x2, x3, x20 => if x20 = true then (some true) else (if 0 ≤ (wrap64 (8 + x2)) then (if (wrap64 (8 + x2) : Int).toNat ≤ 281474976710656 then ((castellanref6_Build.f k 1 2 (wrap64 (x0)) (wrap64 (x1)) (List.replicate (wrap64 (8 + x2) : Int).toNat 0)).bind fun bt415 => (if 0 ≤ (wrap64 ((bt415.1.length : Int) - x2)) then (if (wrap64 ((bt415.1.length : Int) - x2)) ≤ (bt415.1.length : Int) then ((castellanref4_Build.f k 0 0 false x3 0 7 17 1 2 ([] : List Int) (bt415.1.take ((wrap64 ((bt415.1.length : Int) - x2)) : Int).toNat)).bind fun bt423 => ((pack_Parse.f k bt423.1).bind fun bt427 => (if x3 = true then (if bt427.2.2.2.2.2.2.2.2.2.2.2.2.2.2.2.2.2.2 = 0 then (if bt427.2.2.2.2.2.2.2.2.2.2.2.1 = 1 then (if bt427.2.2.2.2.2.2.2.2.2.2.2.2.1 = (wrap64 (x0)) then (if bt427.2.2.2.2.2.2.2.2.2.2.2.2.2.1 = (wrap64 (x1)) then ((castellanlaw8_known.f).bind fun t451 => (some t451)) else (some false)) else (some false)) else (some false)) else (some false)) else (if bt427.2.2.2.2.2.2.2.2.2.2.2.2.2.2.2.2.2.2 = 3 then ((castellanlaw8_known.f).bind fun t452 => (some t452)) else (some false))))) else (none)) else (none))) else (none)) else (none))
def castellanlaw8_PackFirst.f (k : Nat) (a0 : Int) (a1 : Int) (a2 : Int) (a3 : Bool) : Option (Bool) := if a2 < 1 then (castellanlaw8_PackFirst.j0 k a0 a1 a2 a3 true) else (castellanlaw8_PackFirst.j0 k a0 a1 a2 a3 (decide (a2 > 500)))
theorem castellanlaw8_PackFirst.mono_l : ∀ k, (∀ y0 y1 y2 y3 y4, LeO (castellanlaw8_PackFirst.j0 k y0 y1 y2 y3 y4) (castellanlaw8_PackFirst.j0 (k + 1) y0 y1 y2 y3 y4))
  | 0 => fun _ _ _ _ _ r h => by simp [castellanlaw8_PackFirst.j0] at h
  | k + 1 => by
    have ih0 := castellanlaw8_PackFirst.mono_l k
    · intro y0 y1 y2 y3 y4
      unfold castellanlaw8_PackFirst.j0
      repeat' first
      | (with_reducible exact ih0 _ _ _ _ _)
      | (with_reducible exact castellanref4_Build.mono _ _ _ _ _ _ _ _ _ _ _ _)
      | (with_reducible exact castellanref6_Build.mono _ _ _ _ _ _)
      | (with_reducible exact pack_Parse.mono _ _)
      | (with_reducible exact LeO.refl _)
      | (with_reducible exact LeO.none _)
      | (with_reducible refine LeO.ite ?_ ?_)
      | (with_reducible refine LeO.bind ?_ (fun _ => ?_))
      | exact ih0 _ _ _ _ _
      | exact castellanref4_Build.mono _ _ _ _ _ _ _ _ _ _ _ _
      | exact castellanref6_Build.mono _ _ _ _ _ _
      | exact pack_Parse.mono _ _
      | exact LeO.none _
      | refine LeO.ite ?_ ?_
      | refine LeO.bind ?_ (fun _ => ?_)
theorem castellanlaw8_PackFirst.mono : ∀ a0 a1 a2 a3 k, LeO (castellanlaw8_PackFirst.f k a0 a1 a2 a3) (castellanlaw8_PackFirst.f (k + 1) a0 a1 a2 a3) := by
  intro a0 a1 a2 a3 k
  have ih0 := castellanlaw8_PackFirst.mono_l k
  unfold castellanlaw8_PackFirst.f
  repeat' first
      | (with_reducible exact ih0 _ _ _ _ _)
      | (with_reducible exact castellanref4_Build.mono _ _ _ _ _ _ _ _ _ _ _ _)
      | (with_reducible exact castellanref6_Build.mono _ _ _ _ _ _)
      | (with_reducible exact pack_Parse.mono _ _)
      | (with_reducible exact LeO.refl _)
      | (with_reducible exact LeO.none _)
      | (with_reducible refine LeO.ite ?_ ?_)
      | (with_reducible refine LeO.bind ?_ (fun _ => ?_))
      | exact ih0 _ _ _ _ _
      | exact castellanref4_Build.mono _ _ _ _ _ _ _ _ _ _ _ _
      | exact castellanref6_Build.mono _ _ _ _ _ _
      | exact pack_Parse.mono _ _
      | exact LeO.none _
      | refine LeO.ite ?_ ?_
      | refine LeO.bind ?_ (fun _ => ?_)
set_option maxHeartbeats 8000000 in
set_option maxRecDepth 100000 in
theorem castellanlaw8_PackFirst.calls (k : Nat) (a0 : Int) (a1 : Int) (a2 : Int) (a3 : Bool) (r : Bool) (w : World) (hrt : r = true) (h : castellanlaw8_PackFirst.f k a0 a1 a2 a3 = some r) :
    Calls Try.prog 10 #[.int .u16 a0, .int .u16 a1, .int .i64 a2, .bool a3] w fun e w' => e = .returned (.bool r) ∧ Below w.heap.size w w' := by
  have hu74 := Try.underlying74
  have hu26 := Try.underlying26
  have hu29 := Try.underlying29
  have HRT := Aside0.mk hrt
  clear hrt
  have HB := Aside0.mk (Below.refl w.heap.size w)
  have H : (if a2 < 1 then (castellanlaw8_PackFirst.j0 k a0 a1 a2 a3 true) else (castellanlaw8_PackFirst.j0 k a0 a1 a2 a3 (decide (a2 > 500)))) = some r := h
  clear h
  have HC5 := Aside0.mk H
  clear H
  go_enter Try.func10, Try.ntmps10
  go_upto_region 1 with (fail)
  go_cut [20] (fun v20 wc => ∃ (kq : Nat) (x20_4 : Bool), v20 = .bool x20_4 ∧ Aside0 (castellanlaw8_PackFirst.j0 kq a0 a1 a2 a3 x20_4 = some r) ∧ Aside0 (kq ≤ k) ∧ Aside0 (Below w.heap.size w wc))
  case first =>
    have H := HC5.out
    clear HC5
    by_cases c6 : a2 < 1
    · rw [if_pos c6] at H
      have c6b0 : decide (a2 < 1) = true := decide_eq_true c6
      clear c6
      (first | rw [c6b0] | (simp only [i64_w, i32_w]; rw [c6b0]) | skip)
      have H' := Aside0.mk H
      clear H
      go_wp2
      go_meet
      case rel => exact ⟨_, (true), (by first | rfl | (simp; done) | (simp [*]; done)), H', ⟨by first | omega | exact Nat.le_refl _⟩, ⟨by repeat (first | (with_reducible first | exact HB.out | apply below_alloc | apply pw_below_drewN | apply below_drew1) | exact HB.out)⟩⟩
    · rw [if_neg c6] at H
      have c6b0 : decide (a2 < 1) = false := decide_eq_false c6
      clear c6
      (first | rw [c6b0] | (simp only [i64_w, i32_w]; rw [c6b0]) | skip)
      have H' := Aside0.mk H
      clear H
      go_wp2
      go_meet
      case rel => exact ⟨_, (decide (a2 > 500)), (by first | rfl | (simp; done) | (simp [*]; done)), H', ⟨by first | omega | exact Nat.le_refl _⟩, ⟨by repeat (first | (with_reducible first | exact HB.out | apply below_alloc | apply pw_below_drewN | apply below_drew1) | exact HB.out)⟩⟩
  case rest =>
    clear HC5
    try clear c1
    try clear p2
    try clear c6
    try clear c6b0
    obtain ⟨kq, x20_4, rfl, HA, HJ4, HB⟩ := hcut
    cases kq with
    | zero => exact absurd HA.out (by simp [castellanlaw8_PackFirst.j0])
    | succ kj4 =>
      have H := HA.out
      clear HA
      simp only [castellanlaw8_PackFirst.j0] at H
      by_cases c7 : x20_4 = true
      · subst c7
        have H1 : (some true) = some r := by rw [if_pos rfl] at H; exact H
        clear H
        have H := H1
        clear H1
        obtain rfl := Option.some.inj H
        go_wp2
        go_ret
        exact ⟨by first | rfl | (simp [errW_none, errW_some] <;> rfl) | (simp [*, errW_none, errW_some] <;> rfl), by repeat (first | (with_reducible first | exact HB.out | apply below_alloc | apply pw_below_drewN | apply below_drew1) | exact HB.out)⟩
      · replace c7 := Bool.eq_false_iff.mpr c7
        subst c7
        have H1 : (if 0 ≤ (wrap64 (8 + a2)) then (if (wrap64 (8 + a2) : Int).toNat ≤ 281474976710656 then ((castellanref6_Build.f kj4 1 2 (wrap64 (a0)) (wrap64 (a1)) (List.replicate (wrap64 (8 + a2) : Int).toNat 0)).bind fun bt415 => (if 0 ≤ (wrap64 ((bt415.1.length : Int) - a2)) then (if (wrap64 ((bt415.1.length : Int) - a2)) ≤ (bt415.1.length : Int) then ((castellanref4_Build.f kj4 0 0 false a3 0 7 17 1 2 ([] : List Int) (bt415.1.take ((wrap64 ((bt415.1.length : Int) - a2)) : Int).toNat)).bind fun bt423 => ((pack_Parse.f kj4 bt423.1).bind fun bt427 => (if a3 = true then (if bt427.2.2.2.2.2.2.2.2.2.2.2.2.2.2.2.2.2.2 = 0 then (if bt427.2.2.2.2.2.2.2.2.2.2.2.1 = 1 then (if bt427.2.2.2.2.2.2.2.2.2.2.2.2.1 = (wrap64 (a0)) then (if bt427.2.2.2.2.2.2.2.2.2.2.2.2.2.1 = (wrap64 (a1)) then ((castellanlaw8_known.f).bind fun t451 => (some t451)) else (some false)) else (some false)) else (some false)) else (some false)) else (if bt427.2.2.2.2.2.2.2.2.2.2.2.2.2.2.2.2.2.2 = 3 then ((castellanlaw8_known.f).bind fun t452 => (some t452)) else (some false))))) else (none)) else (none))) else (none)) else (none)) = some r := by rw [if_neg (show ¬ (false = true) by decide)] at H; exact H
        clear H
        have H := H1
        clear H1
        obtain ⟨ji8, hji8⟩ : ∃ j_ : Int, (wrap64 (8 + a2)) = j_ := ⟨_, rfl⟩
        replace H : (if 0 ≤ (ji8) then (if (ji8 : Int).toNat ≤ 281474976710656 then ((castellanref6_Build.f kj4 1 2 (wrap64 (a0)) (wrap64 (a1)) (List.replicate (ji8 : Int).toNat 0)).bind fun bt415 => (if 0 ≤ (wrap64 ((bt415.1.length : Int) - a2)) then (if (wrap64 ((bt415.1.length : Int) - a2)) ≤ (bt415.1.length : Int) then ((castellanref4_Build.f kj4 0 0 false a3 0 7 17 1 2 ([] : List Int) (bt415.1.take ((wrap64 ((bt415.1.length : Int) - a2)) : Int).toNat)).bind fun bt423 => ((pack_Parse.f kj4 bt423.1).bind fun bt427 => (if a3 = true then (if bt427.2.2.2.2.2.2.2.2.2.2.2.2.2.2.2.2.2.2 = 0 then (if bt427.2.2.2.2.2.2.2.2.2.2.2.1 = 1 then (if bt427.2.2.2.2.2.2.2.2.2.2.2.2.1 = (wrap64 (a0)) then (if bt427.2.2.2.2.2.2.2.2.2.2.2.2.2.1 = (wrap64 (a1)) then ((castellanlaw8_known.f).bind fun t451 => (some t451)) else (some false)) else (some false)) else (some false)) else (some false)) else (if bt427.2.2.2.2.2.2.2.2.2.2.2.2.2.2.2.2.2.2 = 3 then ((castellanlaw8_known.f).bind fun t452 => (some t452)) else (some false))))) else (none)) else (none))) else (none)) else (none)) = some r := by first | (rw [hji8] at H; exact H) | (simp only [hji8] at H ⊢; exact H)
        have hji8w : (IntKind.i64.wrap (8 + a2)) = ji8 := (i64_w _).trans hji8
        by_cases c9 : 0 ≤ (ji8)
        · rw [if_pos c9] at H
          have c9b0 := eq_true c9
          have c9b1 : decide (0 ≤ (ji8)) = true := decide_eq_true c9
          clear c9
          by_cases c10 : (ji8 : Int).toNat ≤ 281474976710656
          · rw [if_pos c10] at H
            have c10b0 := eq_true c10
            have c10b1 : decide ((ji8 : Int).toNat ≤ 281474976710656) = true := decide_eq_true c10
            clear c10
            obtain ⟨y412, hy412⟩ : ∃ y_ : List Int, y_ = (List.replicate (ji8 : Int).toNat 0) := ⟨_, rfl⟩
            replace H : ((castellanref6_Build.f kj4 1 2 (wrap64 (a0)) (wrap64 (a1)) y412).bind fun bt415 => (if 0 ≤ (wrap64 ((bt415.1.length : Int) - a2)) then (if (wrap64 ((bt415.1.length : Int) - a2)) ≤ (bt415.1.length : Int) then ((castellanref4_Build.f kj4 0 0 false a3 0 7 17 1 2 ([] : List Int) (bt415.1.take ((wrap64 ((bt415.1.length : Int) - a2)) : Int).toNat)).bind fun bt423 => ((pack_Parse.f kj4 bt423.1).bind fun bt427 => (if a3 = true then (if bt427.2.2.2.2.2.2.2.2.2.2.2.2.2.2.2.2.2.2 = 0 then (if bt427.2.2.2.2.2.2.2.2.2.2.2.1 = 1 then (if bt427.2.2.2.2.2.2.2.2.2.2.2.2.1 = (wrap64 (a0)) then (if bt427.2.2.2.2.2.2.2.2.2.2.2.2.2.1 = (wrap64 (a1)) then ((castellanlaw8_known.f).bind fun t451 => (some t451)) else (some false)) else (some false)) else (some false)) else (some false)) else (if bt427.2.2.2.2.2.2.2.2.2.2.2.2.2.2.2.2.2.2 = 3 then ((castellanlaw8_known.f).bind fun t452 => (some t452)) else (some false))))) else (none)) else (none))) = some r := by first | (rw [hy412]; with_reducible exact H) | (have H2_ := (Option.bind_some _ _).symm.trans H; rw [hy412]; with_reducible exact H2_) | (have H2_ := (Option.bind_some _ _).symm.trans H; with_reducible exact H2_) | with_reducible exact H | (rw [hy412]; exact H) | exact H
            have Ny412 := Aside0.mk hy412
            clear hy412
            replace H := Option.bind_eq_some_iff.mp H
            obtain ⟨⟨t415, t418⟩, A110, H⟩ := H
            replace H : (if 0 ≤ (wrap64 ((t415.length : Int) - a2)) then (if (wrap64 ((t415.length : Int) - a2)) ≤ (t415.length : Int) then ((castellanref4_Build.f kj4 0 0 false a3 0 7 17 1 2 ([] : List Int) (t415.take ((wrap64 ((t415.length : Int) - a2)) : Int).toNat)).bind fun bt423 => ((pack_Parse.f kj4 bt423.1).bind fun bt427 => (if a3 = true then (if bt427.2.2.2.2.2.2.2.2.2.2.2.2.2.2.2.2.2.2 = 0 then (if bt427.2.2.2.2.2.2.2.2.2.2.2.1 = 1 then (if bt427.2.2.2.2.2.2.2.2.2.2.2.2.1 = (wrap64 (a0)) then (if bt427.2.2.2.2.2.2.2.2.2.2.2.2.2.1 = (wrap64 (a1)) then ((castellanlaw8_known.f).bind fun t451 => (some t451)) else (some false)) else (some false)) else (some false)) else (some false)) else (if bt427.2.2.2.2.2.2.2.2.2.2.2.2.2.2.2.2.2.2 = 3 then ((castellanlaw8_known.f).bind fun t452 => (some t452)) else (some false))))) else (none)) else (none)) = some r := H
            have A11 := Aside0.mk A110
            clear A110
            obtain ⟨ji12, hji12⟩ : ∃ j_ : Int, (wrap64 ((t415.length : Int) - a2)) = j_ := ⟨_, rfl⟩
            replace H : (if 0 ≤ (ji12) then (if (ji12) ≤ (t415.length : Int) then ((castellanref4_Build.f kj4 0 0 false a3 0 7 17 1 2 ([] : List Int) (t415.take ((ji12) : Int).toNat)).bind fun bt423 => ((pack_Parse.f kj4 bt423.1).bind fun bt427 => (if a3 = true then (if bt427.2.2.2.2.2.2.2.2.2.2.2.2.2.2.2.2.2.2 = 0 then (if bt427.2.2.2.2.2.2.2.2.2.2.2.1 = 1 then (if bt427.2.2.2.2.2.2.2.2.2.2.2.2.1 = (wrap64 (a0)) then (if bt427.2.2.2.2.2.2.2.2.2.2.2.2.2.1 = (wrap64 (a1)) then ((castellanlaw8_known.f).bind fun t451 => (some t451)) else (some false)) else (some false)) else (some false)) else (some false)) else (if bt427.2.2.2.2.2.2.2.2.2.2.2.2.2.2.2.2.2.2 = 3 then ((castellanlaw8_known.f).bind fun t452 => (some t452)) else (some false))))) else (none)) else (none)) = some r := by first | (rw [hji12] at H; exact H) | (simp only [hji12] at H ⊢; exact H)
            (try rw [hji12] at A11)
            have hji12w : (IntKind.i64.wrap ((t415.length : Int) - a2)) = ji12 := (i64_w _).trans hji12
            by_cases c13 : 0 ≤ (ji12)
            · rw [if_pos c13] at H
              have c13b0 := eq_true c13
              have c13b1 : decide (0 ≤ (ji12)) = true := decide_eq_true c13
              clear c13
              by_cases c14 : (ji12) ≤ (t415.length : Int)
              · rw [if_pos c14] at H
                have c14b0 := eq_true c14
                have c14b1 : decide ((ji12) ≤ (t415.length : Int)) = true := decide_eq_true c14
                clear c14
                obtain ⟨y419, hy419⟩ : ∃ y_ : List Int, y_ = (t415.take ((ji12) : Int).toNat) := ⟨_, rfl⟩
                replace H : ((castellanref4_Build.f kj4 0 0 false a3 0 7 17 1 2 ([] : List Int) y419).bind fun bt423 => ((pack_Parse.f kj4 bt423.1).bind fun bt427 => (if a3 = true then (if bt427.2.2.2.2.2.2.2.2.2.2.2.2.2.2.2.2.2.2 = 0 then (if bt427.2.2.2.2.2.2.2.2.2.2.2.1 = 1 then (if bt427.2.2.2.2.2.2.2.2.2.2.2.2.1 = (wrap64 (a0)) then (if bt427.2.2.2.2.2.2.2.2.2.2.2.2.2.1 = (wrap64 (a1)) then ((castellanlaw8_known.f).bind fun t451 => (some t451)) else (some false)) else (some false)) else (some false)) else (some false)) else (if bt427.2.2.2.2.2.2.2.2.2.2.2.2.2.2.2.2.2.2 = 3 then ((castellanlaw8_known.f).bind fun t452 => (some t452)) else (some false))))) = some r := by first | (rw [hy419]; with_reducible exact H) | (have H2_ := (Option.bind_some _ _).symm.trans H; rw [hy419]; with_reducible exact H2_) | (have H2_ := (Option.bind_some _ _).symm.trans H; with_reducible exact H2_) | with_reducible exact H | (rw [hy419]; exact H) | exact H
                have Ny419 := Aside0.mk hy419
                clear hy419
                replace H := Option.bind_eq_some_iff.mp H
                obtain ⟨⟨t423, t426⟩, A150, H⟩ := H
                replace H : ((pack_Parse.f kj4 t423).bind fun bt427 => (if a3 = true then (if bt427.2.2.2.2.2.2.2.2.2.2.2.2.2.2.2.2.2.2 = 0 then (if bt427.2.2.2.2.2.2.2.2.2.2.2.1 = 1 then (if bt427.2.2.2.2.2.2.2.2.2.2.2.2.1 = (wrap64 (a0)) then (if bt427.2.2.2.2.2.2.2.2.2.2.2.2.2.1 = (wrap64 (a1)) then ((castellanlaw8_known.f).bind fun t451 => (some t451)) else (some false)) else (some false)) else (some false)) else (some false)) else (if bt427.2.2.2.2.2.2.2.2.2.2.2.2.2.2.2.2.2.2 = 3 then ((castellanlaw8_known.f).bind fun t452 => (some t452)) else (some false)))) = some r := H
                have A15 := Aside0.mk A150
                clear A150
                replace H := Option.bind_eq_some_iff.mp H
                obtain ⟨⟨t427, t428, t429, t430, t431, t432, t433, t434, t435, t436, t439, t442, t443, t444, t445, t446, t447, t448, t449⟩, A160, H⟩ := H
                replace H : (if a3 = true then (if t449 = 0 then (if t442 = 1 then (if t443 = (wrap64 (a0)) then (if t444 = (wrap64 (a1)) then ((castellanlaw8_known.f).bind fun t451 => (some t451)) else (some false)) else (some false)) else (some false)) else (some false)) else (if t449 = 3 then ((castellanlaw8_known.f).bind fun t452 => (some t452)) else (some false))) = some r := H
                have A16 := Aside0.mk A160
                clear A160
                by_cases c17 : a3 = true
                · subst c17
                  have H1 : (if t449 = 0 then (if t442 = 1 then (if t443 = (wrap64 (a0)) then (if t444 = (wrap64 (a1)) then ((castellanlaw8_known.f).bind fun t451 => (some t451)) else (some false)) else (some false)) else (some false)) else (some false)) = some r := by rw [if_pos rfl] at H; exact H
                  clear H
                  have H := H1
                  clear H1
                  by_cases c18 : t449 = 0
                  · rw [if_pos c18] at H
                    have c18b0 : (t449 == 0) = true := beq_iff_eq.mpr c18
                    have c18b1 : (t449 != 0) = false := bne_eq_false_iff_eq.mpr c18
                    clear c18
                    by_cases c19 : t442 = 1
                    · rw [if_pos c19] at H
                      have c19b0 : (t442 == 1) = true := beq_iff_eq.mpr c19
                      have c19b1 : (t442 != 1) = false := bne_eq_false_iff_eq.mpr c19
                      clear c19
                      by_cases c20 : t443 = (wrap64 (a0))
                      · rw [if_pos c20] at H
                        have c20b0 : (t443 == (wrap64 (a0))) = true := beq_iff_eq.mpr c20
                        have c20b1 : (t443 != (wrap64 (a0))) = false := bne_eq_false_iff_eq.mpr c20
                        clear c20
                        by_cases c21 : t444 = (wrap64 (a1))
                        · rw [if_pos c21] at H
                          have c21b0 : (t444 == (wrap64 (a1))) = true := beq_iff_eq.mpr c21
                          have c21b1 : (t444 != (wrap64 (a1))) = false := bne_eq_false_iff_eq.mpr c21
                          clear c21
                          replace H := Option.bind_eq_some_iff.mp H
                          obtain ⟨t451, A220, H⟩ := H
                          replace H : (some t451) = some r := H
                          have A22 := Aside0.mk A220
                          clear A220
                          obtain rfl := Option.some.inj H
                          go_wp2_with (first | ((with_reducible refine gate_dst (N := 28) rfl ?_); refine Kd.R_make (Kd.int .u8) _ 5 rfl (N := 28) rfl 24 _ _ rfl ji8 rfl rfl Try.underlying24 (.int .u8 0) 1 info5 rfl (by decide) (by omega) 0 (ok := fun _ => True) (okp := fun _ => True) rfl (fun _ hk => hk) trivial (of_decide_eq_true (by first | (with_reducible assumption) | assumption)) (Nat.le_trans (Nat.mul_le_mul_right _ (of_decide_eq_true (by first | (with_reducible assumption) | assumption) : ji8.toNat ≤ 281474976710656)) (by omega)) (Below.refl _ _) (Nat.le_refl _) ?_; intro v413 w23 ho24 hb hg_ hnew_; clear hg_ hnew_; (first | rw [← Ny412.out] at ho24 | (simp only [Int.reduceToNat] at ho24; rw [← Ny412.out] at ho24)); have n0_ := Aside0.mk (Kd.R_lower ho24 (below_size (by repeat (first | (with_reducible first | exact HB.out | apply below_alloc | apply pw_below_drewN | apply below_drew1) | exact HB.out)))); have n1_ := Aside0.mk (below_step (by repeat (first | (with_reducible first | exact HB.out | apply below_alloc | apply pw_below_drewN | apply below_drew1) | exact HB.out)) hb); clear HB; have HO414 := n0_; have HB := n1_; clear n0_ n1_; clear hb ho24; obtain ⟨Ao25, co25, eo25⟩ := Kd.R_slice HO414.out; subst eo25) | ((with_reducible refine gate_callee (f := 38) rfl ?_); refine goesL_ (some 30) rfl rfl Try.func38 (by kernel_rfl) rfl #[.int .u32 1, .int .u32 2, .agg #[.int .i64 (wrap64 (a0)), .int .i64 (wrap64 (a1)), .slice Ao25 y412.length co25]] rfl (by (try simp only [List.map_toArray, List.map_cons, List.map_nil]); first | done | rfl | (simp only [List.length_drop, List.length_take]; rfl)) ?_; (with_reducible refine (castellanref6_Build.calls kj4 1 2 (wrap64 (a0)) (wrap64 (a1)) _ _ y412 t415 t418 _ ?side1 ?side2 A11.out).mono ?_); (case side1 => repeat (first | exact (Kd.R_reads' HO414.out).2.2 | (with_reducible refine Kd.C_alloc ?_ _) | (with_reducible refine Kd.C_drewN ?_ _) | (with_reducible refine Kd.C_drew ?_))); (case side2 => exact (Kd.R_reads' HO414.out).2.1); rintro e w26 ⟨v416, rfl, ho0, hb⟩; refine ⟨_, rfl, ?_⟩; have n0_ := Aside0.mk (Kd.R_elder' (by (with_reducible repeat (first | apply Kd.R_alloc | apply Kd.R_drewN | apply Kd.R_drew)); exact HO414.out) (Kd.R_base ho0) hb); have n1_ := Aside0.mk (Kd.R_lower (Kd.R_new' ho0 (Kd.R_lt (by (with_reducible repeat (first | apply Kd.R_alloc | apply Kd.R_drewN | apply Kd.R_drew)); exact HO414.out))) (below_size (by repeat (first | (with_reducible first | exact HB.out | apply below_alloc | apply pw_below_drewN | apply below_drew1) | exact HB.out)))); have n2_ := Aside0.mk (below_step (by repeat (first | (with_reducible first | exact HB.out | apply below_alloc | apply pw_below_drewN | apply below_drew1) | exact HB.out)) hb); clear HO414; clear HB; have HO414 := n0_; have HO417 := n1_; have HB := n2_; clear n0_ n1_ n2_; (try clear hb); (try clear hb2); (try clear hk); (try clear hi); (try clear ho0); obtain ⟨Ao27, co27, eo27⟩ := Kd.R_slice HO417.out; subst eo27; have q28 : ((ji12) : Int) ≤ ((t415.length : Int) : Int) := of_decide_eq_true (by first | (with_reducible assumption) | assumption); obtain ⟨i028, hi028, _, hsz28, _⟩ := info_parts info5; have hroom28 : t415.length ≤ co27 := (Kd.R_reads' HO417.out).2.1; have hC28 : Kd.C (Kd.int .u8) _ Ao27 t415.length t415 := (Kd.R_reads' HO417.out).2.2; have hcut28 := cut_to (P := Try.prog) 24 5 .i64 Try.underlying24 hi028 Ao27 t415.length co27 (ji12) (of_decide_eq_true (by first | (with_reducible assumption) | assumption)) q28 hroom28; have hr28 := Kd.C_take (m := ((ji12) : Int).toNat) hC28 (by omega); have hy28 : y419.length = ((ji12) : Int).toNat := (by rw [Ny419.out, List.length_take]; omega); rw [← Ny419.out] at hr28; rw [← hy28] at hcut28; have HR422 := Aside0.mk hr28; have HC422 := Aside0.mk (show y419.length ≤ co27 from by omega); clear hr28 hC28 hroom28 hi028 hsz28; have KY28 := Aside0.mk hy28; clear hy28; have KL28 := Aside0.mk (show ((ji12) : Int).toNat ≤ t415.length from by omega); replace q28 := eq_true q28) | ((with_reducible refine gate_callee (f := 26) rfl ?_); refine goesL_ (some 42) rfl rfl Try.func26 (by kernel_rfl) rfl #[.agg #[.int .i64 0, .int .i64 0, .bool false, .bool true, .int .i64 0, .int .i64 7, .int .i64 17, .int .u32 1, .int .u32 2, .slice none 0 0, .slice Ao27 y419.length co27]] rfl (by (try simp only [List.map_toArray, List.map_cons, List.map_nil]); first | done | rfl | (simp only [List.length_drop, List.length_take]; rfl)) ?_; (refine (castellanref4_Build.calls kj4 0 0 false true 0 7 17 1 2 _ _ ([] : List Int) _ _ y419 t423 t426 _ ?side1 ?side2 ?side3 ?side4 A15.out).mono ?_); (case side1 => exact Kd.C_nil _ _); (case side2 => exact Nat.le_refl _); (case side3 => repeat (first | exact (by repeat (first | (with_reducible exact HR422.out) | (with_reducible refine Kd.C_alloc ?_ _) | (with_reducible refine Kd.C_drewN ?_ _) | (with_reducible refine Kd.C_drew ?_) | exact HR422.out)) | (with_reducible refine Kd.C_alloc ?_ _) | (with_reducible refine Kd.C_drewN ?_ _) | (with_reducible refine Kd.C_drew ?_))); (case side4 => exact HC422.out); rintro e w29 ⟨v424, rfl, ho0, hb⟩; refine ⟨_, rfl, ?_⟩; have n0_ := Aside0.mk (Kd.R_elder' (by (with_reducible repeat (first | apply Kd.R_alloc | apply Kd.R_drewN | apply Kd.R_drew)); exact HO414.out) (Kd.R_base ho0) hb); have n1_ := Aside0.mk (Kd.R_elder' (by (with_reducible repeat (first | apply Kd.R_alloc | apply Kd.R_drewN | apply Kd.R_drew)); exact HO417.out) (Kd.R_base ho0) hb); have n2_ := Aside0.mk (Kd.R_lower (Kd.R_new' (Kd.R_new' ho0 (Kd.R_lt (by (with_reducible repeat (first | apply Kd.R_alloc | apply Kd.R_drewN | apply Kd.R_drew)); exact HO414.out))) (Kd.R_lt (by (with_reducible repeat (first | apply Kd.R_alloc | apply Kd.R_drewN | apply Kd.R_drew)); exact HO417.out))) (below_size (by repeat (first | (with_reducible first | exact HB.out | apply below_alloc | apply pw_below_drewN | apply below_drew1) | exact HB.out)))); have n3_ := Aside0.mk (Kd.C_below (by repeat (first | (with_reducible exact HR422.out) | (with_reducible refine Kd.C_alloc ?_ _) | (with_reducible refine Kd.C_drewN ?_ _) | (with_reducible refine Kd.C_drew ?_) | exact HR422.out)) hb); have n4_ := Aside0.mk (below_step (by repeat (first | (with_reducible first | exact HB.out | apply below_alloc | apply pw_below_drewN | apply below_drew1) | exact HB.out)) hb); clear HO414; clear HO417; clear HR422; clear HB; have HO414 := n0_; have HO417 := n1_; have HO425 := n2_; have HR422 := n3_; have HB := n4_; clear n0_ n1_ n2_ n3_ n4_; (try clear hb); (try clear hb2); (try clear hk); (try clear hi); (try clear ho0); obtain ⟨Ao30, co30, eo30⟩ := Kd.R_slice HO425.out; subst eo30) | ((with_reducible refine gate_callee (f := 35) rfl ?_); refine goesL_ (some 47) rfl rfl Try.func35 (by kernel_rfl) rfl #[.slice Ao30 t423.length co30] rfl (by (try simp only [List.map_toArray, List.map_cons, List.map_nil]); first | done | rfl | (simp only [List.length_drop, List.length_take]; rfl)) ?_; (with_reducible refine (pack_Parse.calls kj4 _ _ t423 t427 t428 t429 t430 t431 t432 t433 t434 t435 t436 t439 t442 t443 t444 t445 t446 t447 t448 t449 _ ?side1 ?side2 A16.out).mono ?_); (case side1 => repeat (first | exact (Kd.R_reads' HO425.out).2.2 | (with_reducible refine Kd.C_alloc ?_ _) | (with_reducible refine Kd.C_drewN ?_ _) | (with_reducible refine Kd.C_drew ?_))); (case side2 => exact (Kd.R_reads' HO425.out).2.1); rintro e w31 ⟨v437, v440, rfl, ho0, ho1, hb⟩; refine ⟨_, rfl, ?_⟩; have n0_ := Aside0.mk (Kd.R_mono (Kd.R_told (Kd.R_told (Kd.R_old (by (with_reducible repeat (first | apply Kd.R_alloc | apply Kd.R_drewN | apply Kd.R_drew)); exact HO414.out) hb) (Kd.R_base ho0)) (Kd.R_base ho1)) (fun _ h_ => h_.1)); have n1_ := Aside0.mk (Kd.R_mono (Kd.R_told (Kd.R_told (Kd.R_old (by (with_reducible repeat (first | apply Kd.R_alloc | apply Kd.R_drewN | apply Kd.R_drew)); exact HO417.out) hb) (Kd.R_base ho0)) (Kd.R_base ho1)) (fun _ h_ => h_.1)); have n2_ := Aside0.mk (Kd.R_mono (Kd.R_told (Kd.R_told (Kd.R_old (by (with_reducible repeat (first | apply Kd.R_alloc | apply Kd.R_drewN | apply Kd.R_drew)); exact HO425.out) hb) (Kd.R_base ho0)) (Kd.R_base ho1)) (fun _ h_ => h_.1)); have n3_ := Aside0.mk (Kd.R_lower (Kd.R_new' (Kd.R_new' (Kd.R_new' ho0 (Kd.R_lt (by (with_reducible repeat (first | apply Kd.R_alloc | apply Kd.R_drewN | apply Kd.R_drew)); exact HO414.out))) (Kd.R_lt (by (with_reducible repeat (first | apply Kd.R_alloc | apply Kd.R_drewN | apply Kd.R_drew)); exact HO417.out))) (Kd.R_lt (by (with_reducible repeat (first | apply Kd.R_alloc | apply Kd.R_drewN | apply Kd.R_drew)); exact HO425.out))) (below_size (by repeat (first | (with_reducible first | exact HB.out | apply below_alloc | apply pw_below_drewN | apply below_drew1) | exact HB.out)))); have n4_ := Aside0.mk (Kd.R_lower (Kd.R_new' (Kd.R_new' (Kd.R_new' ho1 (Kd.R_lt (by (with_reducible repeat (first | apply Kd.R_alloc | apply Kd.R_drewN | apply Kd.R_drew)); exact HO414.out))) (Kd.R_lt (by (with_reducible repeat (first | apply Kd.R_alloc | apply Kd.R_drewN | apply Kd.R_drew)); exact HO417.out))) (Kd.R_lt (by (with_reducible repeat (first | apply Kd.R_alloc | apply Kd.R_drewN | apply Kd.R_drew)); exact HO425.out))) (below_size (by repeat (first | (with_reducible first | exact HB.out | apply below_alloc | apply pw_below_drewN | apply below_drew1) | exact HB.out)))); have n5_ := Aside0.mk (Kd.C_below (by repeat (first | (with_reducible exact HR422.out) | (with_reducible refine Kd.C_alloc ?_ _) | (with_reducible refine Kd.C_drewN ?_ _) | (with_reducible refine Kd.C_drew ?_) | exact HR422.out)) hb); have n6_ := Aside0.mk (below_step (by repeat (first | (with_reducible first | exact HB.out | apply below_alloc | apply pw_below_drewN | apply below_drew1) | exact HB.out)) hb); clear HO414; clear HO417; clear HO425; clear HR422; clear HB; have HO414 := n0_; have HO417 := n1_; have HO425 := n2_; have HO438 := n3_; have HO441 := n4_; have HR422 := n5_; have HB := n6_; clear n0_ n1_ n2_ n3_ n4_ n5_ n6_; (try clear hb); (try clear hb2); (try clear hk); (try clear hi); (try clear ho0); (try clear ho1)) | ((with_reducible refine gate_dst (N := 13) rfl ?_); obtain ⟨Ao34, co34, eo34⟩ := Kd.R_slice HO438.out; subst eo34; obtain ⟨Ao35, co35, eo35⟩ := Kd.R_slice HO441.out; subst eo35; have HO := Aside0.mk (Owns.nil_of HB.out); have HF : True := trivial; refine ow_box HO rfl (N := 13) rfl #[.int .i64 0, .int .i64 0, .bool false, .bool false, .int .i64 0, .int .i64 0, .int .i64 0, .int .u32 0, .int .u32 0, .slice none 0 0, .slice none 0 0, .int .i64 0, .int .i64 0, .int .i64 0, .int .i64 0, .int .i64 0, .int .i64 0, .pointer none] 29 ?hr rfl ?_; (case hr => first | (go_simp; done) | (go_simp; rfl)); clear HO HF; intro g13 w1 HO; have HF := HO.out.facts; simp only [OwnsM.Facts, and_true] at HF) | ((with_reducible refine gate_store (p := 13) rfl ?_); (first | refine ow_put HO rfl rfl 0 rfl (ty := 29) rfl _ rfl rfl (by kernel_rfl) rfl rfl ?_); clear HO HF; intro w1 HO; simp only [List.set_cons_zero, List.set_cons_succ, List.setIfInBounds_toArray] at HO; have HF := HO.out.facts; simp only [OwnsM.Facts, and_true] at HF) | (go_at_call 24; (with_reducible refine (castellanlaw8_known.calls  t451 _ A22.out).mono ?_); rintro e w1 ⟨rfl, hb⟩; replace HO := Aside0.mk (HO.out.step hb); clear HF; have HF := HO.out.facts; simp only [OwnsM.Facts, and_true] at HF))
                          go_ret
                          exact ⟨by first | rfl | (simp [errW_none, errW_some] <;> rfl) | (simp only [← hji8, ← hji12]; first | rfl | (simp [errW_none, errW_some] <;> rfl)) | (simp [*, errW_none, errW_some] <;> rfl), HO.out.below⟩
                        · rw [if_neg c21] at H
                          have c21b0 : (t444 == (wrap64 (a1))) = false := beq_eq_false_iff_ne.mpr c21
                          have c21b1 : (t444 != (wrap64 (a1))) = true := bne_iff_ne.mpr c21
                          exact absurd (H.trans (congrArg some HRT.out)) (by simp)
                      · rw [if_neg c20] at H
                        have c20b0 : (t443 == (wrap64 (a0))) = false := beq_eq_false_iff_ne.mpr c20
                        have c20b1 : (t443 != (wrap64 (a0))) = true := bne_iff_ne.mpr c20
                        exact absurd (H.trans (congrArg some HRT.out)) (by simp)
                    · rw [if_neg c19] at H
                      have c19b0 : (t442 == 1) = false := beq_eq_false_iff_ne.mpr c19
                      have c19b1 : (t442 != 1) = true := bne_iff_ne.mpr c19
                      exact absurd (H.trans (congrArg some HRT.out)) (by simp)
                  · rw [if_neg c18] at H
                    have c18b0 : (t449 == 0) = false := beq_eq_false_iff_ne.mpr c18
                    have c18b1 : (t449 != 0) = true := bne_iff_ne.mpr c18
                    exact absurd (H.trans (congrArg some HRT.out)) (by simp)
                · replace c17 := Bool.eq_false_iff.mpr c17
                  subst c17
                  have H1 : (if t449 = 3 then ((castellanlaw8_known.f).bind fun t452 => (some t452)) else (some false)) = some r := by rw [if_neg (show ¬ (false = true) by decide)] at H; exact H
                  clear H
                  have H := H1
                  clear H1
                  by_cases c37 : t449 = 3
                  · rw [if_pos c37] at H
                    have c37b0 : (t449 == 3) = true := beq_iff_eq.mpr c37
                    have c37b1 : (t449 != 3) = false := bne_eq_false_iff_eq.mpr c37
                    clear c37
                    replace H := Option.bind_eq_some_iff.mp H
                    obtain ⟨t452, A380, H⟩ := H
                    replace H : (some t452) = some r := H
                    have A38 := Aside0.mk A380
                    clear A380
                    obtain rfl := Option.some.inj H
                    go_wp2_with (first | ((with_reducible refine gate_dst (N := 28) rfl ?_); refine Kd.R_make (Kd.int .u8) _ 5 rfl (N := 28) rfl 24 _ _ rfl ji8 rfl rfl Try.underlying24 (.int .u8 0) 1 info5 rfl (by decide) (by omega) 0 (ok := fun _ => True) (okp := fun _ => True) rfl (fun _ hk => hk) trivial (of_decide_eq_true (by first | (with_reducible assumption) | assumption)) (Nat.le_trans (Nat.mul_le_mul_right _ (of_decide_eq_true (by first | (with_reducible assumption) | assumption) : ji8.toNat ≤ 281474976710656)) (by omega)) (Below.refl _ _) (Nat.le_refl _) ?_; intro v413 w39 ho40 hb hg_ hnew_; clear hg_ hnew_; (first | rw [← Ny412.out] at ho40 | (simp only [Int.reduceToNat] at ho40; rw [← Ny412.out] at ho40)); have n0_ := Aside0.mk (Kd.R_lower ho40 (below_size (by repeat (first | (with_reducible first | exact HB.out | apply below_alloc | apply pw_below_drewN | apply below_drew1) | exact HB.out)))); have n1_ := Aside0.mk (below_step (by repeat (first | (with_reducible first | exact HB.out | apply below_alloc | apply pw_below_drewN | apply below_drew1) | exact HB.out)) hb); clear HB; have HO414 := n0_; have HB := n1_; clear n0_ n1_; clear hb ho40; obtain ⟨Ao41, co41, eo41⟩ := Kd.R_slice HO414.out; subst eo41) | ((with_reducible refine gate_callee (f := 38) rfl ?_); refine goesL_ (some 30) rfl rfl Try.func38 (by kernel_rfl) rfl #[.int .u32 1, .int .u32 2, .agg #[.int .i64 (wrap64 (a0)), .int .i64 (wrap64 (a1)), .slice Ao41 y412.length co41]] rfl (by (try simp only [List.map_toArray, List.map_cons, List.map_nil]); first | done | rfl | (simp only [List.length_drop, List.length_take]; rfl)) ?_; (with_reducible refine (castellanref6_Build.calls kj4 1 2 (wrap64 (a0)) (wrap64 (a1)) _ _ y412 t415 t418 _ ?side1 ?side2 A11.out).mono ?_); (case side1 => repeat (first | exact (Kd.R_reads' HO414.out).2.2 | (with_reducible refine Kd.C_alloc ?_ _) | (with_reducible refine Kd.C_drewN ?_ _) | (with_reducible refine Kd.C_drew ?_))); (case side2 => exact (Kd.R_reads' HO414.out).2.1); rintro e w42 ⟨v416, rfl, ho0, hb⟩; refine ⟨_, rfl, ?_⟩; have n0_ := Aside0.mk (Kd.R_elder' (by (with_reducible repeat (first | apply Kd.R_alloc | apply Kd.R_drewN | apply Kd.R_drew)); exact HO414.out) (Kd.R_base ho0) hb); have n1_ := Aside0.mk (Kd.R_lower (Kd.R_new' ho0 (Kd.R_lt (by (with_reducible repeat (first | apply Kd.R_alloc | apply Kd.R_drewN | apply Kd.R_drew)); exact HO414.out))) (below_size (by repeat (first | (with_reducible first | exact HB.out | apply below_alloc | apply pw_below_drewN | apply below_drew1) | exact HB.out)))); have n2_ := Aside0.mk (below_step (by repeat (first | (with_reducible first | exact HB.out | apply below_alloc | apply pw_below_drewN | apply below_drew1) | exact HB.out)) hb); clear HO414; clear HB; have HO414 := n0_; have HO417 := n1_; have HB := n2_; clear n0_ n1_ n2_; (try clear hb); (try clear hb2); (try clear hk); (try clear hi); (try clear ho0); obtain ⟨Ao43, co43, eo43⟩ := Kd.R_slice HO417.out; subst eo43; have q44 : ((ji12) : Int) ≤ ((t415.length : Int) : Int) := of_decide_eq_true (by first | (with_reducible assumption) | assumption); obtain ⟨i044, hi044, _, hsz44, _⟩ := info_parts info5; have hroom44 : t415.length ≤ co43 := (Kd.R_reads' HO417.out).2.1; have hC44 : Kd.C (Kd.int .u8) _ Ao43 t415.length t415 := (Kd.R_reads' HO417.out).2.2; have hcut44 := cut_to (P := Try.prog) 24 5 .i64 Try.underlying24 hi044 Ao43 t415.length co43 (ji12) (of_decide_eq_true (by first | (with_reducible assumption) | assumption)) q44 hroom44; have hr44 := Kd.C_take (m := ((ji12) : Int).toNat) hC44 (by omega); have hy44 : y419.length = ((ji12) : Int).toNat := (by rw [Ny419.out, List.length_take]; omega); rw [← Ny419.out] at hr44; rw [← hy44] at hcut44; have HR422 := Aside0.mk hr44; have HC422 := Aside0.mk (show y419.length ≤ co43 from by omega); clear hr44 hC44 hroom44 hi044 hsz44; have KY44 := Aside0.mk hy44; clear hy44; have KL44 := Aside0.mk (show ((ji12) : Int).toNat ≤ t415.length from by omega); replace q44 := eq_true q44) | ((with_reducible refine gate_callee (f := 26) rfl ?_); refine goesL_ (some 42) rfl rfl Try.func26 (by kernel_rfl) rfl #[.agg #[.int .i64 0, .int .i64 0, .bool false, .bool false, .int .i64 0, .int .i64 7, .int .i64 17, .int .u32 1, .int .u32 2, .slice none 0 0, .slice Ao43 y419.length co43]] rfl (by (try simp only [List.map_toArray, List.map_cons, List.map_nil]); first | done | rfl | (simp only [List.length_drop, List.length_take]; rfl)) ?_; (refine (castellanref4_Build.calls kj4 0 0 false false 0 7 17 1 2 _ _ ([] : List Int) _ _ y419 t423 t426 _ ?side1 ?side2 ?side3 ?side4 A15.out).mono ?_); (case side1 => exact Kd.C_nil _ _); (case side2 => exact Nat.le_refl _); (case side3 => repeat (first | exact (by repeat (first | (with_reducible exact HR422.out) | (with_reducible refine Kd.C_alloc ?_ _) | (with_reducible refine Kd.C_drewN ?_ _) | (with_reducible refine Kd.C_drew ?_) | exact HR422.out)) | (with_reducible refine Kd.C_alloc ?_ _) | (with_reducible refine Kd.C_drewN ?_ _) | (with_reducible refine Kd.C_drew ?_))); (case side4 => exact HC422.out); rintro e w45 ⟨v424, rfl, ho0, hb⟩; refine ⟨_, rfl, ?_⟩; have n0_ := Aside0.mk (Kd.R_elder' (by (with_reducible repeat (first | apply Kd.R_alloc | apply Kd.R_drewN | apply Kd.R_drew)); exact HO414.out) (Kd.R_base ho0) hb); have n1_ := Aside0.mk (Kd.R_elder' (by (with_reducible repeat (first | apply Kd.R_alloc | apply Kd.R_drewN | apply Kd.R_drew)); exact HO417.out) (Kd.R_base ho0) hb); have n2_ := Aside0.mk (Kd.R_lower (Kd.R_new' (Kd.R_new' ho0 (Kd.R_lt (by (with_reducible repeat (first | apply Kd.R_alloc | apply Kd.R_drewN | apply Kd.R_drew)); exact HO414.out))) (Kd.R_lt (by (with_reducible repeat (first | apply Kd.R_alloc | apply Kd.R_drewN | apply Kd.R_drew)); exact HO417.out))) (below_size (by repeat (first | (with_reducible first | exact HB.out | apply below_alloc | apply pw_below_drewN | apply below_drew1) | exact HB.out)))); have n3_ := Aside0.mk (Kd.C_below (by repeat (first | (with_reducible exact HR422.out) | (with_reducible refine Kd.C_alloc ?_ _) | (with_reducible refine Kd.C_drewN ?_ _) | (with_reducible refine Kd.C_drew ?_) | exact HR422.out)) hb); have n4_ := Aside0.mk (below_step (by repeat (first | (with_reducible first | exact HB.out | apply below_alloc | apply pw_below_drewN | apply below_drew1) | exact HB.out)) hb); clear HO414; clear HO417; clear HR422; clear HB; have HO414 := n0_; have HO417 := n1_; have HO425 := n2_; have HR422 := n3_; have HB := n4_; clear n0_ n1_ n2_ n3_ n4_; (try clear hb); (try clear hb2); (try clear hk); (try clear hi); (try clear ho0); obtain ⟨Ao46, co46, eo46⟩ := Kd.R_slice HO425.out; subst eo46) | ((with_reducible refine gate_callee (f := 35) rfl ?_); refine goesL_ (some 47) rfl rfl Try.func35 (by kernel_rfl) rfl #[.slice Ao46 t423.length co46] rfl (by (try simp only [List.map_toArray, List.map_cons, List.map_nil]); first | done | rfl | (simp only [List.length_drop, List.length_take]; rfl)) ?_; (with_reducible refine (pack_Parse.calls kj4 _ _ t423 t427 t428 t429 t430 t431 t432 t433 t434 t435 t436 t439 t442 t443 t444 t445 t446 t447 t448 t449 _ ?side1 ?side2 A16.out).mono ?_); (case side1 => repeat (first | exact (Kd.R_reads' HO425.out).2.2 | (with_reducible refine Kd.C_alloc ?_ _) | (with_reducible refine Kd.C_drewN ?_ _) | (with_reducible refine Kd.C_drew ?_))); (case side2 => exact (Kd.R_reads' HO425.out).2.1); rintro e w47 ⟨v437, v440, rfl, ho0, ho1, hb⟩; refine ⟨_, rfl, ?_⟩; have n0_ := Aside0.mk (Kd.R_mono (Kd.R_told (Kd.R_told (Kd.R_old (by (with_reducible repeat (first | apply Kd.R_alloc | apply Kd.R_drewN | apply Kd.R_drew)); exact HO414.out) hb) (Kd.R_base ho0)) (Kd.R_base ho1)) (fun _ h_ => h_.1)); have n1_ := Aside0.mk (Kd.R_mono (Kd.R_told (Kd.R_told (Kd.R_old (by (with_reducible repeat (first | apply Kd.R_alloc | apply Kd.R_drewN | apply Kd.R_drew)); exact HO417.out) hb) (Kd.R_base ho0)) (Kd.R_base ho1)) (fun _ h_ => h_.1)); have n2_ := Aside0.mk (Kd.R_mono (Kd.R_told (Kd.R_told (Kd.R_old (by (with_reducible repeat (first | apply Kd.R_alloc | apply Kd.R_drewN | apply Kd.R_drew)); exact HO425.out) hb) (Kd.R_base ho0)) (Kd.R_base ho1)) (fun _ h_ => h_.1)); have n3_ := Aside0.mk (Kd.R_lower (Kd.R_new' (Kd.R_new' (Kd.R_new' ho0 (Kd.R_lt (by (with_reducible repeat (first | apply Kd.R_alloc | apply Kd.R_drewN | apply Kd.R_drew)); exact HO414.out))) (Kd.R_lt (by (with_reducible repeat (first | apply Kd.R_alloc | apply Kd.R_drewN | apply Kd.R_drew)); exact HO417.out))) (Kd.R_lt (by (with_reducible repeat (first | apply Kd.R_alloc | apply Kd.R_drewN | apply Kd.R_drew)); exact HO425.out))) (below_size (by repeat (first | (with_reducible first | exact HB.out | apply below_alloc | apply pw_below_drewN | apply below_drew1) | exact HB.out)))); have n4_ := Aside0.mk (Kd.R_lower (Kd.R_new' (Kd.R_new' (Kd.R_new' ho1 (Kd.R_lt (by (with_reducible repeat (first | apply Kd.R_alloc | apply Kd.R_drewN | apply Kd.R_drew)); exact HO414.out))) (Kd.R_lt (by (with_reducible repeat (first | apply Kd.R_alloc | apply Kd.R_drewN | apply Kd.R_drew)); exact HO417.out))) (Kd.R_lt (by (with_reducible repeat (first | apply Kd.R_alloc | apply Kd.R_drewN | apply Kd.R_drew)); exact HO425.out))) (below_size (by repeat (first | (with_reducible first | exact HB.out | apply below_alloc | apply pw_below_drewN | apply below_drew1) | exact HB.out)))); have n5_ := Aside0.mk (Kd.C_below (by repeat (first | (with_reducible exact HR422.out) | (with_reducible refine Kd.C_alloc ?_ _) | (with_reducible refine Kd.C_drewN ?_ _) | (with_reducible refine Kd.C_drew ?_) | exact HR422.out)) hb); have n6_ := Aside0.mk (below_step (by repeat (first | (with_reducible first | exact HB.out | apply below_alloc | apply pw_below_drewN | apply below_drew1) | exact HB.out)) hb); clear HO414; clear HO417; clear HO425; clear HR422; clear HB; have HO414 := n0_; have HO417 := n1_; have HO425 := n2_; have HO438 := n3_; have HO441 := n4_; have HR422 := n5_; have HB := n6_; clear n0_ n1_ n2_ n3_ n4_ n5_ n6_; (try clear hb); (try clear hb2); (try clear hk); (try clear hi); (try clear ho0); (try clear ho1)) | ((with_reducible refine gate_dst (N := 13) rfl ?_); obtain ⟨Ao50, co50, eo50⟩ := Kd.R_slice HO438.out; subst eo50; obtain ⟨Ao51, co51, eo51⟩ := Kd.R_slice HO441.out; subst eo51; have HO := Aside0.mk (Owns.nil_of HB.out); have HF : True := trivial; refine ow_box HO rfl (N := 13) rfl #[.int .i64 0, .int .i64 0, .bool false, .bool false, .int .i64 0, .int .i64 0, .int .i64 0, .int .u32 0, .int .u32 0, .slice none 0 0, .slice none 0 0, .int .i64 0, .int .i64 0, .int .i64 0, .int .i64 0, .int .i64 0, .int .i64 0, .pointer none] 29 ?hr rfl ?_; (case hr => first | (go_simp; done) | (go_simp; rfl)); clear HO HF; intro g13 w1 HO; have HF := HO.out.facts; simp only [OwnsM.Facts, and_true] at HF) | ((with_reducible refine gate_store (p := 13) rfl ?_); (first | refine ow_put HO rfl rfl 0 rfl (ty := 29) rfl _ rfl rfl (by kernel_rfl) rfl rfl ?_); clear HO HF; intro w1 HO; simp only [List.set_cons_zero, List.set_cons_succ, List.setIfInBounds_toArray] at HO; have HF := HO.out.facts; simp only [OwnsM.Facts, and_true] at HF) | (go_at_call 24; (with_reducible refine (castellanlaw8_known.calls  t452 _ A38.out).mono ?_); rintro e w1 ⟨rfl, hb⟩; replace HO := Aside0.mk (HO.out.step hb); clear HF; have HF := HO.out.facts; simp only [OwnsM.Facts, and_true] at HF))
                    go_ret
                    exact ⟨by first | rfl | (simp [errW_none, errW_some] <;> rfl) | (simp only [← hji8, ← hji12]; first | rfl | (simp [errW_none, errW_some] <;> rfl)) | (simp [*, errW_none, errW_some] <;> rfl), HO.out.below⟩
                  · rw [if_neg c37] at H
                    have c37b0 : (t449 == 3) = false := beq_eq_false_iff_ne.mpr c37
                    have c37b1 : (t449 != 3) = true := bne_iff_ne.mpr c37
                    exact absurd (H.trans (congrArg some HRT.out)) (by simp)
              · rw [if_neg c14] at H
                exact absurd H (by simp)
            · rw [if_neg c13] at H
              exact absurd H (by simp)
          · rw [if_neg c10] at H
            exact absurd H (by simp)
        · rw [if_neg c9] at H
          exact absurd H (by simp)

/-- THE ONE PURE STATEMENT of castellanlaw8_PackFirst: yours. -/
def castellanlaw8_PackFirst.Pure : Prop := ∀ (a0 : Int) (a1 : Int) (a2 : Int) (a3 : Bool), (Lit.int .u16 a0).wf = true → (Lit.int .u16 a1).wf = true → (Lit.int .i64 a2).wf = true → ∃ k, castellanlaw8_PackFirst.f k a0 a1 a2 a3 = some true
theorem castellanlaw8_PackFirst.walk (P : castellanlaw8_PackFirst.Pure) (a0 : Int) (a1 : Int) (a2 : Int) (a3 : Bool) (w : World) (w0 : (Lit.int .u16 a0).wf = true) (w1 : (Lit.int .u16 a1).wf = true) (w2 : (Lit.int .i64 a2).wf = true) :
    Calls Try.prog 10 #[.int .u16 a0, .int .u16 a1, .int .i64 a2, .bool a3] w fun e w' => e = .returned (.bool true) ∧ Below w.heap.size w w' := by
  obtain ⟨k, h⟩ := P a0 a1 a2 a3 w0 w1 w2
  refine (castellanlaw8_PackFirst.calls k a0 a1 a2 a3 true w rfl h).mono ?_
  rintro e w' ⟨rfl, hd⟩
  exact ⟨rfl, hd⟩

end Go.Proofs.Ytkdibloahkhgoaa.QPackFirst
