-- written by myprint.py, a program of this session's over the kit's printer
import Derived.Test.YtbenimfjhcbplaaQIcmpBackx0
import Derived.Test.YtbenimfjhcbplaaQIcmpBackx1
import Derived.Test.YtbenimfjhcbplaaQIcmpBackx2
import Derived.Test.YtbenimfjhcbplaaQIcmpBackx3
namespace Go.Proofs.Ytbenimfjhcbplaa.QIcmpBack
open Go.RowKit Go.Proofs.YtbenimfjhcbplaaW.PrintWords Go.Proofs.YtbenimfjhcbplaaW.PrintLast Go.Proofs.YtbenimfjhcbplaaW.PrintMore
attribute [local go_sem] max2_int min2_int max_two min_two max_three min_three max_four min_four   -- for this text's walks alone
set_option linter.unusedVariables false
set_option linter.unusedSimpArgs false

/-! ### castellanref2_fold: function 64 -/
def castellanref2_fold.l0 : Nat → Int → Option (Int)
  | 0, _ => none
  | k + 1, x0 => if x0 > 65535 then (castellanref2_fold.l0 k (wrap64 ((Go.bits .and .i64 x0 65535) + (x0 / 65536)))) else (some x0)
def castellanref2_fold.f (k : Nat) (a0 : Int) : Option (Int) := castellanref2_fold.l0 k a0
theorem castellanref2_fold.mono_l : ∀ k, (∀ y0, LeO (castellanref2_fold.l0 k y0) (castellanref2_fold.l0 (k + 1) y0))
  | 0 => fun _ r h => by simp [castellanref2_fold.l0] at h
  | k + 1 => by
    have ih0 := castellanref2_fold.mono_l k
    · intro y0
      unfold castellanref2_fold.l0
      repeat' first
      | (with_reducible exact ih0 _)
      | (with_reducible exact LeO.refl _)
      | (with_reducible exact LeO.none _)
      | (with_reducible refine LeO.ite ?_ ?_)
      | (with_reducible refine LeO.bind ?_ (fun _ => ?_))
      | exact ih0 _
      | exact LeO.none _
      | refine LeO.ite ?_ ?_
      | refine LeO.bind ?_ (fun _ => ?_)
theorem castellanref2_fold.mono : ∀ a0 k, LeO (castellanref2_fold.f k a0) (castellanref2_fold.f (k + 1) a0) := by
  intro a0 k
  have ih0 := castellanref2_fold.mono_l k
  unfold castellanref2_fold.f
  repeat' first
      | (with_reducible exact ih0 _)
      | (with_reducible exact LeO.refl _)
      | (with_reducible exact LeO.none _)
      | (with_reducible refine LeO.ite ?_ ?_)
      | (with_reducible refine LeO.bind ?_ (fun _ => ?_))
      | exact ih0 _
      | exact LeO.none _
      | refine LeO.ite ?_ ?_
      | refine LeO.bind ?_ (fun _ => ?_)
set_option maxHeartbeats 8000000 in
set_option maxRecDepth 100000 in
theorem castellanref2_fold.calls (k : Nat) (a0 : Int) (r : Int) (w : World) (h : castellanref2_fold.f k a0 = some r) :
    Calls Try.prog 64 #[.int .i64 a0] w fun e w' => e = .returned (.int .i64 r) ∧ Drawn0 w w' := by
  have H : (castellanref2_fold.l0 k a0) = some r := h
  clear h
  have H' := Aside0.mk H
  clear H
  go_enter Try.func64, Try.ntmps64
  go_wp2
  go_loopg [0] k (fun kq v0 w' => ∃ (x0_1 : Int), v0 = .int .i64 x0_1 ∧ Aside0 (castellanref2_fold.l0 kq x0_1 = some r) ∧ Aside0 (kq ≤ k) ∧ Drawn0 w w')
  case atStart => exact ⟨(a0), (by first | rfl | (simp; done) | (simp [*]; done)), H', ⟨Nat.le_refl _⟩, by repeat (first | exact Drawn0.refl _ | apply Drawn0.step)⟩
  case round =>
    clear H'
    obtain ⟨x0_1, rfl, HA, HK1, ⟨m1, rfl⟩⟩ := hrel
    cases gk with
    | zero => exact absurd HA.out (by simp [castellanref2_fold.l0])
    | succ k1 =>
      have H := HA.out
      clear HA
      simp only [castellanref2_fold.l0] at H
      by_cases c2 : x0_1 > 65535
      · rw [if_pos c2] at H
        have c2b0 : decide (65535 < x0_1) = true := decide_eq_true c2
        clear c2
        have H' := Aside0.mk H
        clear H
        go_wp2
        go_roundg k1
        case measure => have := HK1.out; omega
        case rel => exact ⟨(wrap64 ((Go.bits .and .i64 x0_1 65535) + (x0_1 / 65536))), (by first | rfl | (simp; done) | (simp [*]; done)), H', ⟨by have := HK1.out; omega⟩, by repeat (first | exact Drawn0.refl _ | apply Drawn0.step)⟩
      · rw [if_neg c2] at H
        have c2b0 : decide (65535 < x0_1) = false := decide_eq_false c2
        clear c2
        obtain rfl := Option.some.inj H
        go_wp2
        go_ret
        exact ⟨by first | rfl | (simp; done) | (simp [*]; done), by repeat (first | exact Drawn0.refl _ | apply Drawn0.step)⟩

/-! ### castellanref2_Of: function 55 -/
def castellanref2_Of.l0 : Nat → List Int → Int → Int → Option (Int)
  | 0, _, _, _ => none
  | k + 1, x0, x3, x4 => if x4 < (x0.length : Int) then ((castellanref1_Get16.f x0 x4).bind fun t170 => ((castellanref2_fold.f k (wrap64 (x3 + t170))).bind fun t171 => (castellanref2_Of.l0 k x0 t171 (wrap64 (x4 + 2))))) else (some (wrap64 (65535 - x3)))
def castellanref2_Of.f (k : Nat) (l0 : List Int) : Option (Int) := castellanref2_Of.l0 k l0 0 0
theorem castellanref2_Of.mono_l : ∀ k, (∀ y0 y1 y2, LeO (castellanref2_Of.l0 k y0 y1 y2) (castellanref2_Of.l0 (k + 1) y0 y1 y2))
  | 0 => fun _ _ _ r h => by simp [castellanref2_Of.l0] at h
  | k + 1 => by
    have ih0 := castellanref2_Of.mono_l k
    · intro y0 y1 y2
      unfold castellanref2_Of.l0
      repeat' first
      | (with_reducible exact ih0 _ _ _)
      | (with_reducible exact castellanref2_fold.mono _ _)
      | (with_reducible exact LeO.refl _)
      | (with_reducible exact LeO.none _)
      | (with_reducible refine LeO.ite ?_ ?_)
      | (with_reducible refine LeO.bind ?_ (fun _ => ?_))
      | exact ih0 _ _ _
      | exact castellanref2_fold.mono _ _
      | exact LeO.none _
      | refine LeO.ite ?_ ?_
      | refine LeO.bind ?_ (fun _ => ?_)
theorem castellanref2_Of.mono : ∀ a0 k, LeO (castellanref2_Of.f k a0) (castellanref2_Of.f (k + 1) a0) := by
  intro a0 k
  have ih0 := castellanref2_Of.mono_l k
  unfold castellanref2_Of.f
  repeat' first
      | (with_reducible exact ih0 _ _ _)
      | (with_reducible exact castellanref2_fold.mono _ _)
      | (with_reducible exact LeO.refl _)
      | (with_reducible exact LeO.none _)
      | (with_reducible refine LeO.ite ?_ ?_)
      | (with_reducible refine LeO.bind ?_ (fun _ => ?_))
      | exact ih0 _ _ _
      | exact castellanref2_fold.mono _ _
      | exact LeO.none _
      | refine LeO.ite ?_ ?_
      | refine LeO.bind ?_ (fun _ => ?_)
set_option maxHeartbeats 8000000 in
set_option maxRecDepth 100000 in
theorem castellanref2_Of.calls (k : Nat) (A0 : Option Addr) (c0 : Nat) (l0 : List Int) (r : Int) (w : World) (hr0 : Kd.C (Kd.int .u8) w A0 l0.length l0) (hc0 : l0.length ≤ c0) (h : castellanref2_Of.f k l0 = some r) :
    Calls Try.prog 55 #[.slice A0 l0.length c0] w fun e w' => e = .returned (.int .i64 r) ∧ Drawn0 w w' := by
  have HR0 := Aside0.mk hr0
  have HC0 := Aside0.mk hc0
  clear hr0 hc0
  have H : (castellanref2_Of.l0 k l0 0 0) = some r := h
  clear h
  have H' := Aside0.mk H
  clear H
  go_enter Try.func55, Try.ntmps55
  go_wp2
  go_loopg [3, 4] k (fun kq v3 v4 w' => ∃ (x3_1 : Int) (x4_1 : Int), v3 = .int .i64 x3_1 ∧ v4 = .int .i64 x4_1 ∧ Aside0 (castellanref2_Of.l0 kq l0 x3_1 x4_1 = some r) ∧ Aside0 (kq ≤ k) ∧ Drawn0 w w')
  case atStart => exact ⟨(0), (0), (by first | rfl | (simp; done) | (simp [*]; done)), (by first | rfl | (simp; done) | (simp [*]; done)), H', ⟨Nat.le_refl _⟩, by repeat (first | exact Drawn0.refl _ | apply Drawn0.step)⟩
  case round =>
    clear H'
    obtain ⟨x3_1, x4_1, rfl, rfl, HA, HK1, ⟨m1, rfl⟩⟩ := hrel
    cases gk with
    | zero => exact absurd HA.out (by simp [castellanref2_Of.l0])
    | succ k1 =>
      have H := HA.out
      clear HA
      simp only [castellanref2_Of.l0] at H
      by_cases c2 : x4_1 < (l0.length : Int)
      · rw [if_pos c2] at H
        have c2b0 : decide (x4_1 < (l0.length : Int)) = true := decide_eq_true c2
        clear c2
        replace H := Option.bind_eq_some_iff.mp H
        obtain ⟨t170, A30, H⟩ := H
        replace H : ((castellanref2_fold.f k1 (wrap64 (x3_1 + t170))).bind fun t171 => (castellanref2_Of.l0 k1 l0 t171 (wrap64 (x4_1 + 2)))) = some r := H
        have A3 := Aside0.mk A30
        clear A30
        replace H := Option.bind_eq_some_iff.mp H
        obtain ⟨t171, A40, H⟩ := H
        replace H : (castellanref2_Of.l0 k1 l0 t171 (wrap64 (x4_1 + 2))) = some r := H
        have A4 := Aside0.mk A40
        clear A40
        have H' := Aside0.mk H
        clear H
        go_wp2_with (first | ((with_reducible refine gate_callee (f := 44) rfl ?_); refine goesL_ (some 14) rfl rfl Try.func44 (by kernel_rfl) rfl #[.slice A0 l0.length c0, .int .i64 x4_1] rfl (by (try simp only [List.map_toArray, List.map_cons, List.map_nil]); first | done | rfl | (simp only [List.length_drop, List.length_take]; rfl)) ?_; (with_reducible refine (castellanref1_Get16.calls _ _ l0 x4_1 t170 _ ?side1 ?side2 A3.out).mono ?_); (case side1 => repeat (first | exact HR0.out | (with_reducible refine Kd.C_alloc ?_ _) | (with_reducible refine Kd.C_drewN ?_ _) | (with_reducible refine Kd.C_drew ?_))); (case side2 => exact HC0.out); rintro e w' ⟨rfl, ⟨nd, rfl⟩⟩; refine ⟨_, rfl, ?_⟩) | ((with_reducible refine gate_callee (f := 64) rfl ?_); refine goesL_ (some 16) rfl rfl Try.func64 (by kernel_rfl) rfl #[.int .i64 (wrap64 (x3_1 + t170))] rfl (by (try simp only [List.map_toArray, List.map_cons, List.map_nil]); first | done | rfl | (simp only [List.length_drop, List.length_take]; rfl)) ?_; (with_reducible refine (castellanref2_fold.calls k1 (wrap64 (x3_1 + t170)) t171 _ A4.out).mono ?_); rintro e w' ⟨rfl, ⟨nd, rfl⟩⟩; refine ⟨_, rfl, ?_⟩))
        go_roundg k1
        case measure => have := HK1.out; omega
        case rel => exact ⟨(t171), (wrap64 (x4_1 + 2)), (by first | rfl | (simp; done) | (simp [*]; done)), (by first | rfl | (simp; done) | (simp [*]; done)), H', ⟨by have := HK1.out; omega⟩, by repeat (first | exact Drawn0.refl _ | apply Drawn0.step)⟩
      · rw [if_neg c2] at H
        have c2b0 : decide (x4_1 < (l0.length : Int)) = false := decide_eq_false c2
        clear c2
        obtain rfl := Option.some.inj H
        go_wp2
        go_ret
        exact ⟨by first | rfl | (simp; done) | (simp [*]; done), by repeat (first | exact Drawn0.refl _ | apply Drawn0.step)⟩

/-! ### castellanref2_Right: function 31 -/
def castellanref2_Right.f (k : Nat) (l0 : List Int) : Option (Bool) := (castellanref2_Of.f k l0).bind fun t172 => (some (t172 == 0))
theorem castellanref2_Right.mono : ∀ a0 k, LeO (castellanref2_Right.f k a0) (castellanref2_Right.f (k + 1) a0) := by
  intro a0 k
  unfold castellanref2_Right.f
  repeat' first
      | (with_reducible exact castellanref2_Of.mono _ _)
      | (with_reducible exact LeO.refl _)
      | (with_reducible exact LeO.none _)
      | (with_reducible refine LeO.ite ?_ ?_)
      | (with_reducible refine LeO.bind ?_ (fun _ => ?_))
      | exact castellanref2_Of.mono _ _
      | exact LeO.none _
      | refine LeO.ite ?_ ?_
      | refine LeO.bind ?_ (fun _ => ?_)
set_option maxHeartbeats 8000000 in
set_option maxRecDepth 100000 in
theorem castellanref2_Right.calls (k : Nat) (A0 : Option Addr) (c0 : Nat) (l0 : List Int) (r : Bool) (w : World) (hr0 : Kd.C (Kd.int .u8) w A0 l0.length l0) (hc0 : l0.length ≤ c0) (h : castellanref2_Right.f k l0 = some r) :
    Calls Try.prog 31 #[.slice A0 l0.length c0] w fun e w' => e = .returned (.bool r) ∧ Drawn0 w w' := by
  have HR0 := Aside0.mk hr0
  have HC0 := Aside0.mk hc0
  clear hr0 hc0
  have H : ((castellanref2_Of.f k l0).bind fun t172 => (some (t172 == 0))) = some r := h
  clear h
  replace H := Option.bind_eq_some_iff.mp H
  obtain ⟨t172, A20, H⟩ := H
  replace H : (some (t172 == 0)) = some r := H
  have A2 := Aside0.mk A20
  clear A20
  obtain rfl := Option.some.inj H
  go_enter Try.func31, Try.ntmps31
  go_wp2_with (first | ((with_reducible refine gate_callee (f := 55) rfl ?_); refine goesL_ (some 4) rfl rfl Try.func55 (by kernel_rfl) rfl #[.slice A0 l0.length c0] rfl (by (try simp only [List.map_toArray, List.map_cons, List.map_nil]); first | done | rfl | (simp only [List.length_drop, List.length_take]; rfl)) ?_; (with_reducible refine (castellanref2_Of.calls k _ _ l0 t172 _ ?side1 ?side2 A2.out).mono ?_); (case side1 => repeat (first | exact HR0.out | (with_reducible refine Kd.C_alloc ?_ _) | (with_reducible refine Kd.C_drewN ?_ _) | (with_reducible refine Kd.C_drew ?_))); (case side2 => exact HC0.out); rintro e w' ⟨rfl, ⟨nd, rfl⟩⟩; refine ⟨_, rfl, ?_⟩))
  go_ret
  exact ⟨by first | rfl | (simp; done) | (simp [*]; done), by repeat (first | exact Drawn0.refl _ | apply Drawn0.step)⟩

/-! ### castellanlaw7_IcmpBack: function 10 -/
mutual
def castellanlaw7_IcmpBack.j0 : Nat → Int → Int → Int → List Int → Int → Int → Bool → Option (Bool)
  | 0, _, _, _, _, _, _, _ => none
  | k + 1, x0, x1, x2, x3, x4, x5, x26 => if x26 = true then (some true) else ((icmp_Build.f k (wrap64 (x0)) (wrap64 (x1)) x2 x3).bind fun bt174 => ((icmp_Parse.f k bt174.1).bind fun bt178 => (if bt174.2 = 0 then (if bt178.2.2.2.2 = 0 then ((castellanref7_Same.f (wrap64 (x0)) (wrap64 (x1)) x2 x3 bt178.1 bt178.2.1 bt178.2.2.1 bt178.2.2.2.1).bind fun t186 => (if t186 = true then ((castellanref2_Right.f k bt174.1).bind fun t187 => (if t187 = true then (castellanlaw7_IcmpBack.j1 k x4 x5 bt174.1 (decide ((bt174.1.length : Int) < 8))) else (castellanlaw7_IcmpBack.j1 k x4 x5 bt174.1 true))) else (castellanlaw7_IcmpBack.j1 k x4 x5 bt174.1 true))) else (castellanlaw7_IcmpBack.j1 k x4 x5 bt174.1 true)) else (castellanlaw7_IcmpBack.j1 k x4 x5 bt174.1 true))))
def castellanlaw7_IcmpBack.j1 : Nat → Int → Int → List Int → Bool → Option (Bool)
  | 0, _, _, _, _ => none
  | k + 1, x4, x5, x14, x65 => if x65 = true then (some false) else (if (x14.length : Int) = 0 then (none) else (if 0 ≤ (Int.tmod (Go.bits .and .i64 x4 65535) (x14.length : Int)) then (if (Int.tmod (Go.bits .and .i64 x4 65535) (x14.length : Int)) < (x14.length : Int) then ((icmp_Parse.f k (x14.set ((Int.tmod (Go.bits .and .i64 x4 65535) (x14.length : Int)) : Int).toNat (Go.bits .xor .u8 (rd x14 (Int.tmod (Go.bits .and .i64 x4 65535) (x14.length : Int))) x5))).bind fun bt190 => (if bt190.2.2.2.2 = 4 then ((castellanlaw7_known.f).bind fun t198 => (some t198)) else (some false))) else (none)) else (none)))
end
def castellanlaw7_IcmpBack.f (k : Nat) (a0 : Int) (a1 : Int) (a2 : Int) (l3 : List Int) (a4 : Int) (a5 : Int) : Option (Bool) := if (l3.length : Int) > 1000 then (castellanlaw7_IcmpBack.j0 k a0 a1 a2 l3 a4 a5 true) else (castellanlaw7_IcmpBack.j0 k a0 a1 a2 l3 a4 a5 (a5 == 0))
theorem castellanlaw7_IcmpBack.mono_l : ∀ k, (∀ y0 y1 y2 y3 y4 y5 y6, LeO (castellanlaw7_IcmpBack.j0 k y0 y1 y2 y3 y4 y5 y6) (castellanlaw7_IcmpBack.j0 (k + 1) y0 y1 y2 y3 y4 y5 y6)) ∧ (∀ y0 y1 y2 y3, LeO (castellanlaw7_IcmpBack.j1 k y0 y1 y2 y3) (castellanlaw7_IcmpBack.j1 (k + 1) y0 y1 y2 y3))
  | 0 => ⟨fun _ _ _ _ _ _ _ r h => by simp [castellanlaw7_IcmpBack.j0] at h, fun _ _ _ _ r h => by simp [castellanlaw7_IcmpBack.j1] at h⟩
  | k + 1 => by
    obtain ⟨ih0, ih1⟩ := castellanlaw7_IcmpBack.mono_l k
    refine ⟨?_, ?_⟩
    · intro y0 y1 y2 y3 y4 y5 y6
      unfold castellanlaw7_IcmpBack.j0
      repeat' first
      | (with_reducible exact ih0 _ _ _ _ _ _ _)
      | (with_reducible exact ih1 _ _ _ _)
      | (with_reducible exact castellanref2_Right.mono _ _)
      | (with_reducible exact icmp_Build.mono _ _ _ _ _)
      | (with_reducible exact icmp_Parse.mono _ _)
      | (with_reducible exact LeO.refl _)
      | (with_reducible exact LeO.none _)
      | (with_reducible refine LeO.ite ?_ ?_)
      | (with_reducible refine LeO.bind ?_ (fun _ => ?_))
      | exact ih0 _ _ _ _ _ _ _
      | exact ih1 _ _ _ _
      | exact castellanref2_Right.mono _ _
      | exact icmp_Build.mono _ _ _ _ _
      | exact icmp_Parse.mono _ _
      | exact LeO.none _
      | refine LeO.ite ?_ ?_
      | refine LeO.bind ?_ (fun _ => ?_)
    · intro y0 y1 y2 y3
      unfold castellanlaw7_IcmpBack.j1
      repeat' first
      | (with_reducible exact ih0 _ _ _ _ _ _ _)
      | (with_reducible exact ih1 _ _ _ _)
      | (with_reducible exact castellanref2_Right.mono _ _)
      | (with_reducible exact icmp_Build.mono _ _ _ _ _)
      | (with_reducible exact icmp_Parse.mono _ _)
      | (with_reducible exact LeO.refl _)
      | (with_reducible exact LeO.none _)
      | (with_reducible refine LeO.ite ?_ ?_)
      | (with_reducible refine LeO.bind ?_ (fun _ => ?_))
      | exact ih0 _ _ _ _ _ _ _
      | exact ih1 _ _ _ _
      | exact castellanref2_Right.mono _ _
      | exact icmp_Build.mono _ _ _ _ _
      | exact icmp_Parse.mono _ _
      | exact LeO.none _
      | refine LeO.ite ?_ ?_
      | refine LeO.bind ?_ (fun _ => ?_)
theorem castellanlaw7_IcmpBack.mono : ∀ a0 a1 a2 a3 a4 a5 k, LeO (castellanlaw7_IcmpBack.f k a0 a1 a2 a3 a4 a5) (castellanlaw7_IcmpBack.f (k + 1) a0 a1 a2 a3 a4 a5) := by
  intro a0 a1 a2 a3 a4 a5 k
  obtain ⟨ih0, ih1⟩ := castellanlaw7_IcmpBack.mono_l k
  unfold castellanlaw7_IcmpBack.f
  repeat' first
      | (with_reducible exact ih0 _ _ _ _ _ _ _)
      | (with_reducible exact ih1 _ _ _ _)
      | (with_reducible exact castellanref2_Right.mono _ _)
      | (with_reducible exact icmp_Build.mono _ _ _ _ _)
      | (with_reducible exact icmp_Parse.mono _ _)
      | (with_reducible exact LeO.refl _)
      | (with_reducible exact LeO.none _)
      | (with_reducible refine LeO.ite ?_ ?_)
      | (with_reducible refine LeO.bind ?_ (fun _ => ?_))
      | exact ih0 _ _ _ _ _ _ _
      | exact ih1 _ _ _ _
      | exact castellanref2_Right.mono _ _
      | exact icmp_Build.mono _ _ _ _ _
      | exact icmp_Parse.mono _ _
      | exact LeO.none _
      | refine LeO.ite ?_ ?_
      | refine LeO.bind ?_ (fun _ => ?_)
set_option maxHeartbeats 8000000 in
set_option maxRecDepth 100000 in
theorem castellanlaw7_IcmpBack.calls (k : Nat) (a0 : Int) (a1 : Int) (a2 : Int) (A3 : Option Addr) (c3 : Nat) (l3 : List Int) (a4 : Int) (a5 : Int) (r : Bool) (w : World) (hr3 : Kd.C (Kd.int .u8) w A3 l3.length l3) (hc3 : l3.length ≤ c3) (hrt : r = true) (h : castellanlaw7_IcmpBack.f k a0 a1 a2 l3 a4 a5 = some r) :
    Calls Try.prog 10 #[.int .u8 a0, .int .u8 a1, .int .u32 a2, .slice A3 l3.length c3, .int .i64 a4, .int .u8 a5] w fun e w' => e = .returned (.bool r) ∧ Below w.heap.size w w' := by
  have hu41 := Try.underlying41
  have HRT := Aside0.mk hrt
  clear hrt
  have HR3 := Aside0.mk hr3
  have HC3 := Aside0.mk hc3
  clear hr3 hc3
  have HB := Aside0.mk (Below.refl w.heap.size w)
  have H : (if (l3.length : Int) > 1000 then (castellanlaw7_IcmpBack.j0 k a0 a1 a2 l3 a4 a5 true) else (castellanlaw7_IcmpBack.j0 k a0 a1 a2 l3 a4 a5 (a5 == 0))) = some r := h
  clear h
  have HC7 := Aside0.mk H
  clear H
  go_enter Try.func10, Try.ntmps10
  go_upto_region 1 with (fail)
  go_cut [26] (fun v26 wc => ∃ (kq : Nat) (x26_6 : Bool), v26 = .bool x26_6 ∧ Aside0 (castellanlaw7_IcmpBack.j0 kq a0 a1 a2 l3 a4 a5 x26_6 = some r) ∧ Aside0 (kq ≤ k) ∧ Aside0 (Below w.heap.size w wc))
  case first =>
    have H := HC7.out
    clear HC7
    by_cases c8 : (l3.length : Int) > 1000
    · rw [if_pos c8] at H
      have c8b0 : decide (1000 < (l3.length : Int)) = true := decide_eq_true c8
      have c8b1 : decide (1000 < l3.length) = true := decide_eq_true (by omega)
      clear c8
      (first | rw [c8b0] | (simp only [i64_w, i32_w]; rw [c8b0]) | skip)
      have H' := Aside0.mk H
      clear H
      go_wp2
      go_meet
      case rel => exact ⟨_, (true), (by first | rfl | (simp; done) | (simp [*]; done)), H', ⟨by first | omega | exact Nat.le_refl _⟩, ⟨by repeat (first | (with_reducible first | exact HB.out | apply below_alloc | apply pw_below_drewN | apply below_drew1) | exact HB.out)⟩⟩
    · rw [if_neg c8] at H
      have c8b0 : decide (1000 < (l3.length : Int)) = false := decide_eq_false c8
      have c8b1 : decide (1000 < l3.length) = false := decide_eq_false (by omega)
      clear c8
      (first | rw [c8b0] | (simp only [i64_w, i32_w]; rw [c8b0]) | skip)
      have H' := Aside0.mk H
      clear H
      go_wp2
      go_meet
      case rel => exact ⟨_, ((a5 == 0)), (by first | rfl | (simp; done) | (simp [*]; done)), H', ⟨by first | omega | exact Nat.le_refl _⟩, ⟨by repeat (first | (with_reducible first | exact HB.out | apply below_alloc | apply pw_below_drewN | apply below_drew1) | exact HB.out)⟩⟩
  case rest =>
    clear HC7
    try clear c1
    try clear p2
    try clear c3
    try clear c8
    try clear c8b0
    try clear c8b1
    obtain ⟨kq, x26_6, rfl, HA, HJ6, HB⟩ := hcut
    cases kq with
    | zero => exact absurd HA.out (by simp [castellanlaw7_IcmpBack.j0])
    | succ kj6 =>
      have H := HA.out
      clear HA
      simp only [castellanlaw7_IcmpBack.j0] at H
      by_cases c9 : x26_6 = true
      · subst c9
        have H1 : (some true) = some r := by rw [if_pos rfl] at H; exact H
        clear H
        have H := H1
        clear H1
        obtain rfl := Option.some.inj H
        go_wp2
        go_ret
        exact ⟨by first | rfl | (simp [errW_none, errW_some] <;> rfl) | (simp [*, errW_none, errW_some] <;> rfl), by repeat (first | (with_reducible first | exact HB.out | apply below_alloc | apply pw_below_drewN | apply below_drew1) | exact HB.out)⟩
      · replace c9 := Bool.eq_false_iff.mpr c9
        subst c9
        have H1 : ((icmp_Build.f kj6 (wrap64 (a0)) (wrap64 (a1)) a2 l3).bind fun bt174 => ((icmp_Parse.f kj6 bt174.1).bind fun bt178 => (if bt174.2 = 0 then (if bt178.2.2.2.2 = 0 then ((castellanref7_Same.f (wrap64 (a0)) (wrap64 (a1)) a2 l3 bt178.1 bt178.2.1 bt178.2.2.1 bt178.2.2.2.1).bind fun t186 => (if t186 = true then ((castellanref2_Right.f kj6 bt174.1).bind fun t187 => (if t187 = true then (castellanlaw7_IcmpBack.j1 kj6 a4 a5 bt174.1 (decide ((bt174.1.length : Int) < 8))) else (castellanlaw7_IcmpBack.j1 kj6 a4 a5 bt174.1 true))) else (castellanlaw7_IcmpBack.j1 kj6 a4 a5 bt174.1 true))) else (castellanlaw7_IcmpBack.j1 kj6 a4 a5 bt174.1 true)) else (castellanlaw7_IcmpBack.j1 kj6 a4 a5 bt174.1 true)))) = some r := by rw [if_neg (show ¬ (false = true) by decide)] at H; exact H
        clear H
        have H := H1
        clear H1
        replace H := Option.bind_eq_some_iff.mp H
        obtain ⟨⟨t174, t177⟩, A100, H⟩ := H
        replace H : ((icmp_Parse.f kj6 t174).bind fun bt178 => (if t177 = 0 then (if bt178.2.2.2.2 = 0 then ((castellanref7_Same.f (wrap64 (a0)) (wrap64 (a1)) a2 l3 bt178.1 bt178.2.1 bt178.2.2.1 bt178.2.2.2.1).bind fun t186 => (if t186 = true then ((castellanref2_Right.f kj6 t174).bind fun t187 => (if t187 = true then (castellanlaw7_IcmpBack.j1 kj6 a4 a5 t174 (decide ((t174.length : Int) < 8))) else (castellanlaw7_IcmpBack.j1 kj6 a4 a5 t174 true))) else (castellanlaw7_IcmpBack.j1 kj6 a4 a5 t174 true))) else (castellanlaw7_IcmpBack.j1 kj6 a4 a5 t174 true)) else (castellanlaw7_IcmpBack.j1 kj6 a4 a5 t174 true))) = some r := H
        have A10 := Aside0.mk A100
        clear A100
        replace H := Option.bind_eq_some_iff.mp H
        obtain ⟨⟨t178, t179, t180, t181, t184⟩, A110, H⟩ := H
        replace H : (if t177 = 0 then (if t184 = 0 then ((castellanref7_Same.f (wrap64 (a0)) (wrap64 (a1)) a2 l3 t178 t179 t180 t181).bind fun t186 => (if t186 = true then ((castellanref2_Right.f kj6 t174).bind fun t187 => (if t187 = true then (castellanlaw7_IcmpBack.j1 kj6 a4 a5 t174 (decide ((t174.length : Int) < 8))) else (castellanlaw7_IcmpBack.j1 kj6 a4 a5 t174 true))) else (castellanlaw7_IcmpBack.j1 kj6 a4 a5 t174 true))) else (castellanlaw7_IcmpBack.j1 kj6 a4 a5 t174 true)) else (castellanlaw7_IcmpBack.j1 kj6 a4 a5 t174 true)) = some r := H
        have A11 := Aside0.mk A110
        clear A110
        have HC12 := Aside0.mk H
        clear H
        go_upto_region 6 with (first | ((with_reducible refine gate_dst (N := 13) rfl ?_); (try (refine gate_guard (by rfl) ?_; dsimp only)); refine box_event ?hg (N := 13) ?hd (cs := #[.int .i64 0, .int .i64 0, .int .u32 0, .slice none 0 0]) (t := 41) ?hr ?_; (case hd => rfl); (case hg => rfl); (case hr => first | (go_simp; done) | (go_simp; rfl)); intro gb173 hg w13 hbox hb; have n0_ := Aside0.mk (below_step (by repeat (first | (with_reducible first | exact HB.out | apply below_alloc | apply pw_below_drewN | apply below_drew1) | exact HB.out)) hb); have n1_ := Aside0.mk (hbox); have n2_ := Aside0.mk ((by rw [hg]; exact (below_size (by repeat (first | (with_reducible first | exact HB.out | apply below_alloc | apply pw_below_drewN | apply below_drew1) | exact HB.out))) : w.heap.size ≤ gb173)); have n3_ := Aside0.mk ((by rw [hg]; exact (below_size (by repeat (first | (with_reducible first | exact HB.out | apply below_alloc | apply pw_below_drewN | apply below_drew1) | exact HB.out))) : w.heap.size ≤ gb173)); clear HB; have HB := n0_; have BK173 := n1_; have GW173 := n2_; have GE173 := n3_; clear n0_ n1_ n2_ n3_; clear hb hbox hg; have hcz14_0 : w13.cell? ⟨gb173, 0, none⟩ = some (.int .i64 0) := (blk_cell BK173.out 0).trans rfl; have hcz14_1 : w13.cell? ⟨gb173, 1, none⟩ = some (.int .i64 0) := (blk_cell BK173.out 1).trans rfl; have hcz14_2 : w13.cell? ⟨gb173, 2, none⟩ = some (.int .u32 0) := (blk_cell BK173.out 2).trans rfl; have hcz14_3 : w13.cell? ⟨gb173, 3, none⟩ = some (.slice none 0 0) := (blk_cell BK173.out 3).trans rfl; have hfz14_0 := blk_frozen BK173.out 0; have hfz14_1 := blk_frozen BK173.out 1; have hfz14_2 := blk_frozen BK173.out 2; have hfz14_3 := blk_frozen BK173.out 3) | ((with_reducible refine gate_store (t := 41) (p := 13) rfl ?_); refine store_event (t := 41) (p := 13) (v := ?vo_w15) (w1 := ((((w13.setCell ⟨gb173, 0, none⟩ (.int .i64 (wrap64 (a0)))).setCell ⟨gb173, 1, none⟩ (.int .i64 (wrap64 (a1)))).setCell ⟨gb173, 2, none⟩ (.int .u32 a2)).setCell ⟨gb173, 3, none⟩ (.slice A3 l3.length c3))) ?hg ?ho ?hn ?hr ?_; (case ho => rfl); (case hg => rfl); (case hn => rfl); (case hr => first | (go_simp; done) | (go_simp; rfl)); intro w15 hw; have n0_ : Aside0 (w15.heap[gb173]? = some (.cells #[.int .i64 (wrap64 (a0)), .int .i64 (wrap64 (a1)), .int .u32 a2, .slice A3 l3.length c3] 41 (0, 0))) := ⟨(by rw [hw]; exact (by (with_reducible repeat (first | refine blk_drewN ?_ _ | refine blk_drew ?_ | refine blk_alloc ?_ _)); refine blk_put (cs := #[.int .i64 (wrap64 (a0)), .int .i64 (wrap64 (a1)), .int .u32 a2, .slice none 0 0]) ?_ 3 _ rfl; (with_reducible repeat (first | refine blk_drewN ?_ _ | refine blk_drew ?_ | refine blk_alloc ?_ _)); refine blk_put (cs := #[.int .i64 (wrap64 (a0)), .int .i64 (wrap64 (a1)), .int .u32 0, .slice none 0 0]) ?_ 2 _ rfl; (with_reducible repeat (first | refine blk_drewN ?_ _ | refine blk_drew ?_ | refine blk_alloc ?_ _)); refine blk_put (cs := #[.int .i64 (wrap64 (a0)), .int .i64 0, .int .u32 0, .slice none 0 0]) ?_ 1 _ rfl; (with_reducible repeat (first | refine blk_drewN ?_ _ | refine blk_drew ?_ | refine blk_alloc ?_ _)); refine blk_put (cs := #[.int .i64 0, .int .i64 0, .int .u32 0, .slice none 0 0]) ?_ 0 _ rfl; (with_reducible repeat (first | refine blk_drewN ?_ _ | refine blk_drew ?_ | refine blk_alloc ?_ _)); exact BK173.out))⟩; have n1_ : Aside0 (Below w.heap.size w w15) := ⟨(by rw [hw]; exact (by repeat (first | (with_reducible first | exact HB.out | apply below_alloc | apply pw_below_drewN | apply below_drew1 | refine below_set ?_ GE173.out) | exact HB.out)))⟩; clear hw; clear BK173; clear HB; have BK173 := n0_; have HB := n1_; clear n0_ n1_; have hcz16_0 : w15.cell? ⟨gb173, 0, none⟩ = some (.int .i64 (wrap64 (a0))) := (blk_cell BK173.out 0).trans rfl; have hcz16_1 : w15.cell? ⟨gb173, 1, none⟩ = some (.int .i64 (wrap64 (a1))) := (blk_cell BK173.out 1).trans rfl; have hcz16_2 : w15.cell? ⟨gb173, 2, none⟩ = some (.int .u32 a2) := (blk_cell BK173.out 2).trans rfl; have hcz16_3 : w15.cell? ⟨gb173, 3, none⟩ = some (.slice A3 l3.length c3) := (blk_cell BK173.out 3).trans rfl; have hfz16_0 := blk_frozen BK173.out 0; have hfz16_1 := blk_frozen BK173.out 1; have hfz16_2 := blk_frozen BK173.out 2; have hfz16_3 := blk_frozen BK173.out 3) | ((with_reducible refine gate_callee (f := 29) rfl ?_); refine goesL_ (some 36) rfl rfl Try.func29 (by kernel_rfl) rfl #[.agg #[.int .i64 (wrap64 (a0)), .int .i64 (wrap64 (a1)), .int .u32 a2, .slice A3 l3.length c3]] rfl (by (try simp only [List.map_toArray, List.map_cons, List.map_nil]); first | done | rfl | (simp only [List.length_drop, List.length_take]; rfl)) ?_; (with_reducible refine (icmp_Build.calls kj6 (wrap64 (a0)) (wrap64 (a1)) a2 (fun k_ => k_ < w.heap.size) _ _ l3 t174 t177 _ ?side1 A10.out).mono ?_); (case side1 => exact Kd.V_mk HC3.out (Kd.F_below (Kd.C_F (Kd.heap_int .u8) HR3.out) (by repeat (first | (with_reducible first | exact HB.out | apply below_alloc | apply pw_below_drewN | apply below_drew1 | refine below_set ?_ GE173.out) | exact HB.out)))); rintro e w17 ⟨v175, rfl, ho0, hb⟩; refine ⟨_, rfl, ?_⟩; have n0_ := Aside0.mk (Kd.R_lower (Kd.R_mono (ok' := fun k_ => True) ho0 (fun _ hk_ => trivial)) (below_size (by repeat (first | (with_reducible first | exact HB.out | apply below_alloc | apply pw_below_drewN | apply below_drew1 | refine below_set ?_ GE173.out) | exact HB.out)))); have n1_ := Aside0.mk (blk_below (g := gb173) (o := .cells #[.int .i64 (wrap64 (a0)), .int .i64 (wrap64 (a1)), .int .u32 a2, .slice A3 l3.length c3] 41 (0, 0)) (by (with_reducible repeat (first | refine blk_drewN ?_ _ | refine blk_drew ?_ | refine blk_alloc ?_ _)); exact BK173.out) hb); have n2_ := Aside0.mk (below_step (by repeat (first | (with_reducible first | exact HB.out | apply below_alloc | apply pw_below_drewN | apply below_drew1 | refine below_set ?_ GE173.out) | exact HB.out)) hb); clear BK173; clear HB; have HO176 := n0_; have BK173 := n1_; have HB := n2_; clear n0_ n1_ n2_; (try clear hb); (try clear hb2); (try clear hk); (try clear hi); (try clear ho0); obtain ⟨Ao18, co18, eo18⟩ := Kd.R_slice HO176.out; subst eo18) | ((with_reducible refine gate_callee (f := 24) rfl ?_); refine goesL_ (some 41) rfl rfl Try.func24 (by kernel_rfl) rfl #[.slice Ao18 t174.length co18] rfl (by (try simp only [List.map_toArray, List.map_cons, List.map_nil]); first | done | rfl | (simp only [List.length_drop, List.length_take]; rfl)) ?_; (with_reducible refine (icmp_Parse.calls kj6 _ _ t174 t178 t179 t180 t181 t184 _ ?side1 ?side2 A11.out).mono ?_); (case side1 => repeat (first | exact (Kd.R_reads' HO176.out).2.2 | (with_reducible refine Kd.C_alloc ?_ _) | (with_reducible refine Kd.C_drewN ?_ _) | (with_reducible refine Kd.C_drew ?_))); (case side2 => exact (Kd.R_reads' HO176.out).2.1); rintro e w19 ⟨v182, rfl, ho0, hb⟩; refine ⟨_, rfl, ?_⟩; have n0_ := Aside0.mk (Kd.R_elder' (by (with_reducible repeat (first | apply Kd.R_alloc | apply Kd.R_drewN | apply Kd.R_drew)); exact HO176.out) (Kd.R_base ho0) hb); have n1_ := Aside0.mk (Kd.R_lower (Kd.R_new' ho0 (Kd.R_lt (by (with_reducible repeat (first | apply Kd.R_alloc | apply Kd.R_drewN | apply Kd.R_drew)); exact HO176.out))) (below_size (by repeat (first | (with_reducible first | exact HB.out | apply below_alloc | apply pw_below_drewN | apply below_drew1 | refine below_set ?_ GE173.out) | exact HB.out)))); have n2_ := Aside0.mk (blk_below (g := gb173) (o := .cells #[.int .i64 (wrap64 (a0)), .int .i64 (wrap64 (a1)), .int .u32 a2, .slice A3 l3.length c3] 41 (0, 0)) (by (with_reducible repeat (first | refine blk_drewN ?_ _ | refine blk_drew ?_ | refine blk_alloc ?_ _)); exact BK173.out) hb); have n3_ := Aside0.mk (below_step (by repeat (first | (with_reducible first | exact HB.out | apply below_alloc | apply pw_below_drewN | apply below_drew1 | refine below_set ?_ GE173.out) | exact HB.out)) hb); clear HO176; clear BK173; clear HB; have HO176 := n0_; have HO183 := n1_; have BK173 := n2_; have HB := n3_; clear n0_ n1_ n2_ n3_; (try clear hb); (try clear hb2); (try clear hk); (try clear hi); (try clear ho0)) | ((with_reducible refine gate_dst (N := 16) rfl ?_); (try (refine gate_guard (by rfl) ?_; dsimp only)); refine box_event ?hg (N := 16) ?hd (cs := #[.int .i64 0, .int .i64 0, .int .u32 0, .slice none 0 0]) (t := 41) ?hr ?_; (case hd => rfl); (case hg => rfl); (case hr => first | (go_simp; done) | (go_simp; rfl)); intro gb185 hg w20 hbox hb; have n0_ := Aside0.mk (Kd.R_below (by (with_reducible repeat (first | apply Kd.R_alloc | apply Kd.R_drewN | apply Kd.R_drew)); exact HO176.out) hb); have n1_ := Aside0.mk (Kd.R_below (by (with_reducible repeat (first | apply Kd.R_alloc | apply Kd.R_drewN | apply Kd.R_drew)); exact HO183.out) hb); have n2_ := Aside0.mk (blk_below (g := gb173) (o := .cells #[.int .i64 (wrap64 (a0)), .int .i64 (wrap64 (a1)), .int .u32 a2, .slice A3 l3.length c3] 41 (0, 0)) (by (with_reducible repeat (first | refine blk_drewN ?_ _ | refine blk_drew ?_ | refine blk_alloc ?_ _)); exact BK173.out) hb); have n3_ := Aside0.mk (below_step (by repeat (first | (with_reducible first | exact HB.out | apply below_alloc | apply pw_below_drewN | apply below_drew1 | refine below_set ?_ GE173.out) | exact HB.out)) hb); have n4_ := Aside0.mk (hbox); have n5_ := Aside0.mk ((by rw [hg]; exact (below_size (by repeat (first | (with_reducible first | exact HB.out | apply below_alloc | apply pw_below_drewN | apply below_drew1 | refine below_set ?_ GE173.out) | exact HB.out))) : w.heap.size ≤ gb185)); have n6_ := Aside0.mk ((by rw [hg]; exact (below_size (by repeat (first | (with_reducible first | exact HB.out | apply below_alloc | apply pw_below_drewN | apply below_drew1 | refine below_set ?_ GE173.out) | exact HB.out))) : w.heap.size ≤ gb185)); have n7_ := Aside0.mk ((by rw [hg]; exact Nat.ne_of_lt (blk_lt (g := gb173) (o := .cells #[.int .i64 (wrap64 (a0)), .int .i64 (wrap64 (a1)), .int .u32 a2, .slice A3 l3.length c3] 41 (0, 0)) (by (with_reducible repeat (first | refine blk_drewN ?_ _ | refine blk_drew ?_ | refine blk_alloc ?_ _)); exact BK173.out)) : gb173 ≠ gb185)); have n8_ := Aside0.mk ((by rw [hg]; exact Nat.ne_of_gt (blk_lt (g := gb173) (o := .cells #[.int .i64 (wrap64 (a0)), .int .i64 (wrap64 (a1)), .int .u32 a2, .slice A3 l3.length c3] 41 (0, 0)) (by (with_reducible repeat (first | refine blk_drewN ?_ _ | refine blk_drew ?_ | refine blk_alloc ?_ _)); exact BK173.out)) : gb185 ≠ gb173)); clear HO176; clear HO183; clear BK173; clear HB; have HO176 := n0_; have HO183 := n1_; have BK173 := n2_; have HB := n3_; have BK185 := n4_; have GW185 := n5_; have GE185 := n6_; have NB173_185 := n7_; have NB185_173 := n8_; clear n0_ n1_ n2_ n3_ n4_ n5_ n6_ n7_ n8_; clear hb hbox hg; have hnb21 := NB185_173.out; have hnc21 := NB173_185.out; have hcz22_0 : w20.cell? ⟨gb185, 0, none⟩ = some (.int .i64 0) := (blk_cell BK185.out 0).trans rfl; have hcz22_1 : w20.cell? ⟨gb185, 1, none⟩ = some (.int .i64 0) := (blk_cell BK185.out 1).trans rfl; have hcz22_2 : w20.cell? ⟨gb185, 2, none⟩ = some (.int .u32 0) := (blk_cell BK185.out 2).trans rfl; have hcz22_3 : w20.cell? ⟨gb185, 3, none⟩ = some (.slice none 0 0) := (blk_cell BK185.out 3).trans rfl; have hfz22_0 := blk_frozen BK185.out 0; have hfz22_1 := blk_frozen BK185.out 1; have hfz22_2 := blk_frozen BK185.out 2; have hfz22_3 := blk_frozen BK185.out 3; obtain ⟨Ao23, co23, eo23⟩ := Kd.R_slice HO183.out; subst eo23))
        (try simp only [Act.put, List.setIfInBounds_toArray, List.set_cons_zero, List.set_cons_succ])
        go_cut [65] (fun v65 wc => ∃ (kq : Nat) (x65_11 : Bool), v65 = .bool x65_11 ∧ Aside0 (castellanlaw7_IcmpBack.j1 kq a4 a5 t174 x65_11 = some r) ∧ Aside0 (kq ≤ kj6) ∧ Aside0 (Kd.R (Kd.int .u8) 5 wc w.heap.size (fun k_ => some k_ ≠ ((.slice Ao23 t181.length co23) : Value).ownBlock) (.slice Ao18 t174.length co18) t174) ∧ Aside0 (Kd.R (Kd.int .u8) 5 wc w.heap.size (fun k_ => some k_ ≠ ((.slice Ao18 t174.length co18) : Value).ownBlock) (.slice Ao23 t181.length co23) t181) ∧ Aside0 (wc.heap[gb173]? = some (.cells #[.int .i64 (wrap64 (a0)), .int .i64 (wrap64 (a1)), .int .u32 a2, (.slice A3 l3.length c3)] 41 (0, 0))) ∧ Aside0 (wc.heap[gb185]? = some (.cells #[.int .i64 t178, .int .i64 t179, .int .u32 t180, (.slice Ao23 t181.length co23)] 41 (0, 0))) ∧ Aside0 (Below w.heap.size w wc))
        case first =>
          have H := HC12.out
          clear HC12
          by_cases c24 : t177 = 0
          · rw [if_pos c24] at H
            have c24b0 : (t177 == 0) = true := beq_iff_eq.mpr c24
            have c24b1 : (t177 != 0) = false := bne_eq_false_iff_eq.mpr c24
            clear c24
            (first | rw [c24b0] | (simp only [i64_w, i32_w]; rw [c24b0]) | skip)
            by_cases c25 : t184 = 0
            · rw [if_pos c25] at H
              have c25b0 : (t184 == 0) = true := beq_iff_eq.mpr c25
              have c25b1 : (t184 != 0) = false := bne_eq_false_iff_eq.mpr c25
              clear c25
              replace H := Option.bind_eq_some_iff.mp H
              obtain ⟨t186, A260, H⟩ := H
              replace H : (if t186 = true then ((castellanref2_Right.f kj6 t174).bind fun t187 => (if t187 = true then (castellanlaw7_IcmpBack.j1 kj6 a4 a5 t174 (decide ((t174.length : Int) < 8))) else (castellanlaw7_IcmpBack.j1 kj6 a4 a5 t174 true))) else (castellanlaw7_IcmpBack.j1 kj6 a4 a5 t174 true)) = some r := H
              have A26 := Aside0.mk A260
              clear A260
              by_cases c27 : t186 = true
              · subst c27
                have H1 : ((castellanref2_Right.f kj6 t174).bind fun t187 => (if t187 = true then (castellanlaw7_IcmpBack.j1 kj6 a4 a5 t174 (decide ((t174.length : Int) < 8))) else (castellanlaw7_IcmpBack.j1 kj6 a4 a5 t174 true))) = some r := by rw [if_pos rfl] at H; exact H
                clear H
                have H := H1
                clear H1
                replace H := Option.bind_eq_some_iff.mp H
                obtain ⟨t187, A280, H⟩ := H
                replace H : (if t187 = true then (castellanlaw7_IcmpBack.j1 kj6 a4 a5 t174 (decide ((t174.length : Int) < 8))) else (castellanlaw7_IcmpBack.j1 kj6 a4 a5 t174 true)) = some r := H
                have A28 := Aside0.mk A280
                clear A280
                by_cases c29 : t187 = true
                · subst c29
                  have H1 : (castellanlaw7_IcmpBack.j1 kj6 a4 a5 t174 (decide ((t174.length : Int) < 8))) = some r := by rw [if_pos rfl] at H; exact H
                  clear H
                  have H := H1
                  clear H1
                  have H' := Aside0.mk H
                  clear H
                  have hnb30 := NB173_185.out
                  have hnc30 := NB185_173.out
                  have hcz31_0 : w20.cell? ⟨gb173, 0, none⟩ = some (.int .i64 (wrap64 (a0))) := (blk_cell BK173.out 0).trans rfl
                  have hcz31_1 : w20.cell? ⟨gb173, 1, none⟩ = some (.int .i64 (wrap64 (a1))) := (blk_cell BK173.out 1).trans rfl
                  have hcz31_2 : w20.cell? ⟨gb173, 2, none⟩ = some (.int .u32 a2) := (blk_cell BK173.out 2).trans rfl
                  have hcz31_3 : w20.cell? ⟨gb173, 3, none⟩ = some (.slice A3 l3.length c3) := (blk_cell BK173.out 3).trans rfl
                  have hfz31_0 := blk_frozen BK173.out 0
                  have hfz31_1 := blk_frozen BK173.out 1
                  have hfz31_2 := blk_frozen BK173.out 2
                  have hfz31_3 := blk_frozen BK173.out 3
                  have hcz32_0 : w20.cell? ⟨gb185, 0, none⟩ = some (.int .i64 0) := (blk_cell BK185.out 0).trans rfl
                  have hcz32_1 : w20.cell? ⟨gb185, 1, none⟩ = some (.int .i64 0) := (blk_cell BK185.out 1).trans rfl
                  have hcz32_2 : w20.cell? ⟨gb185, 2, none⟩ = some (.int .u32 0) := (blk_cell BK185.out 2).trans rfl
                  have hcz32_3 : w20.cell? ⟨gb185, 3, none⟩ = some (.slice none 0 0) := (blk_cell BK185.out 3).trans rfl
                  have hfz32_0 := blk_frozen BK185.out 0
                  have hfz32_1 := blk_frozen BK185.out 1
                  have hfz32_2 := blk_frozen BK185.out 2
                  have hfz32_3 := blk_frozen BK185.out 3
                  go_wp2_with (first | (go_at_call 30; (with_reducible refine (castellanref7_Same.calls (wrap64 (a0)) (wrap64 (a1)) a2 _ _ l3 t178 t179 t180 _ _ t181 true _ ?side1 ?side2 ?side3 ?side4 A26.out).mono ?_); (case side1 => exact Kd.C_below HR3.out (by repeat (first | (with_reducible first | exact HB.out | apply below_alloc | apply pw_below_drewN | apply below_drew1 | refine below_set ?_ GE173.out | refine below_set ?_ GE185.out) | exact HB.out))); (case side2 => exact HC3.out); (case side3 => refine (Kd.R_reads' (e := 5) (base := w.heap.size) (ok := fun k_ => (True ∧ some k_ ≠ (.slice Ao18 t174.length co18 : Value).ownBlock)) (n := t181.length) (c := co23) ?_).2.2; exact (by (with_reducible repeat (first | apply Kd.R_alloc | apply Kd.R_drewN | apply Kd.R_drew)); exact (Kd.R_mono (Kd.R_far (p := ⟨gb185, 3, none⟩) (Kd.R_far (p := ⟨gb185, 2, none⟩) (Kd.R_far (p := ⟨gb185, 1, none⟩) (Kd.R_far (p := ⟨gb185, 0, none⟩) (Kd.R_types HO183.out BK185.out (by decide)) (fun _ hk => hk.2) (.int .i64 t178)) (fun _ hk => hk.2) (.int .i64 t179)) (fun _ hk => hk.2) (.int .u32 t180)) (fun _ hk => hk.2) (.slice Ao23 t181.length co23)) (fun _ h_ => h_.1)))); (case side4 => exact (Kd.R_reads' HO183.out).2.1); rintro e w33 ⟨rfl, hb⟩; have n0_ := Aside0.mk (Kd.R_below (by (with_reducible repeat (first | apply Kd.R_alloc | apply Kd.R_drewN | apply Kd.R_drew)); exact (Kd.R_mono (Kd.R_far (p := ⟨gb185, 3, none⟩) (Kd.R_far (p := ⟨gb185, 2, none⟩) (Kd.R_far (p := ⟨gb185, 1, none⟩) (Kd.R_far (p := ⟨gb185, 0, none⟩) (Kd.R_types HO176.out BK185.out (by decide)) (fun _ hk => hk.2) (.int .i64 t178)) (fun _ hk => hk.2) (.int .i64 t179)) (fun _ hk => hk.2) (.int .u32 t180)) (fun _ hk => hk.2) (.slice Ao23 t181.length co23)) (fun _ h_ => h_.1))) hb); have n1_ := Aside0.mk (Kd.R_below (by (with_reducible repeat (first | apply Kd.R_alloc | apply Kd.R_drewN | apply Kd.R_drew)); exact (Kd.R_mono (Kd.R_far (p := ⟨gb185, 3, none⟩) (Kd.R_far (p := ⟨gb185, 2, none⟩) (Kd.R_far (p := ⟨gb185, 1, none⟩) (Kd.R_far (p := ⟨gb185, 0, none⟩) (Kd.R_types HO183.out BK185.out (by decide)) (fun _ hk => hk.2) (.int .i64 t178)) (fun _ hk => hk.2) (.int .i64 t179)) (fun _ hk => hk.2) (.int .u32 t180)) (fun _ hk => hk.2) (.slice Ao23 t181.length co23)) (fun _ h_ => h_.1))) hb); have n2_ := Aside0.mk (blk_below (g := gb173) (o := .cells #[.int .i64 (wrap64 (a0)), .int .i64 (wrap64 (a1)), .int .u32 a2, .slice A3 l3.length c3] 41 (0, 0)) (by (with_reducible repeat (first | refine blk_drewN ?_ _ | refine blk_drew ?_ | refine blk_alloc ?_ _)); refine blk_far ?_ NB173_185.out _; (with_reducible repeat (first | refine blk_drewN ?_ _ | refine blk_drew ?_ | refine blk_alloc ?_ _)); refine blk_far ?_ NB173_185.out _; (with_reducible repeat (first | refine blk_drewN ?_ _ | refine blk_drew ?_ | refine blk_alloc ?_ _)); refine blk_far ?_ NB173_185.out _; (with_reducible repeat (first | refine blk_drewN ?_ _ | refine blk_drew ?_ | refine blk_alloc ?_ _)); refine blk_far ?_ NB173_185.out _; (with_reducible repeat (first | refine blk_drewN ?_ _ | refine blk_drew ?_ | refine blk_alloc ?_ _)); exact BK173.out) hb); have n3_ := Aside0.mk (blk_below (g := gb185) (o := .cells #[.int .i64 t178, .int .i64 t179, .int .u32 t180, .slice Ao23 t181.length co23] 41 (0, 0)) (by (with_reducible repeat (first | refine blk_drewN ?_ _ | refine blk_drew ?_ | refine blk_alloc ?_ _)); refine blk_put (cs := #[.int .i64 t178, .int .i64 t179, .int .u32 t180, .slice none 0 0]) ?_ 3 _ rfl; (with_reducible repeat (first | refine blk_drewN ?_ _ | refine blk_drew ?_ | refine blk_alloc ?_ _)); refine blk_put (cs := #[.int .i64 t178, .int .i64 t179, .int .u32 0, .slice none 0 0]) ?_ 2 _ rfl; (with_reducible repeat (first | refine blk_drewN ?_ _ | refine blk_drew ?_ | refine blk_alloc ?_ _)); refine blk_put (cs := #[.int .i64 t178, .int .i64 0, .int .u32 0, .slice none 0 0]) ?_ 1 _ rfl; (with_reducible repeat (first | refine blk_drewN ?_ _ | refine blk_drew ?_ | refine blk_alloc ?_ _)); refine blk_put (cs := #[.int .i64 0, .int .i64 0, .int .u32 0, .slice none 0 0]) ?_ 0 _ rfl; (with_reducible repeat (first | refine blk_drewN ?_ _ | refine blk_drew ?_ | refine blk_alloc ?_ _)); exact BK185.out) hb); have n4_ := Aside0.mk (below_step (by repeat (first | (with_reducible first | exact HB.out | apply below_alloc | apply pw_below_drewN | apply below_drew1 | refine below_set ?_ GE173.out | refine below_set ?_ GE185.out) | exact HB.out)) hb); clear HO176; clear HO183; clear BK173; clear BK185; clear HB; have HO176 := n0_; have HO183 := n1_; have BK173 := n2_; have BK185 := n3_; have HB := n4_; clear n0_ n1_ n2_ n3_ n4_; (try clear hb); (try clear hb2); (try clear hk); (try clear hi)) | (go_at_call 31; (with_reducible refine (castellanref2_Right.calls kj6 _ _ t174 true _ ?side1 ?side2 A28.out).mono ?_); (case side1 => repeat (first | exact (Kd.R_reads' HO176.out).2.2 | (with_reducible refine Kd.C_alloc ?_ _) | (with_reducible refine Kd.C_drewN ?_ _) | (with_reducible refine Kd.C_drew ?_))); (case side2 => exact (Kd.R_reads' HO176.out).2.1); rintro e w' ⟨rfl, ⟨nd, rfl⟩⟩))
                  go_meet
                  case rel => exact ⟨_, (decide ((t174.length : Int) < 8)), (by first | rfl | (simp; done) | (simp [*]; done)), H', ⟨by have := HJ6.out; first | omega | exact Nat.le_refl _⟩, ⟨by (with_reducible repeat (first | apply Kd.R_alloc | apply Kd.R_drewN | apply Kd.R_drew)); exact Kd.R_mono HO176.out (fun _ hk => hk.2)⟩, ⟨by (with_reducible repeat (first | apply Kd.R_alloc | apply Kd.R_drewN | apply Kd.R_drew)); exact Kd.R_mono HO183.out (fun _ hk => hk.2)⟩, ⟨by (with_reducible repeat (first | refine blk_drewN ?_ _ | refine blk_drew ?_ | refine blk_alloc ?_ _)); exact BK173.out⟩, ⟨by (with_reducible repeat (first | refine blk_drewN ?_ _ | refine blk_drew ?_ | refine blk_alloc ?_ _)); exact BK185.out⟩, ⟨by repeat (first | (with_reducible first | exact HB.out | apply below_alloc | apply pw_below_drewN | apply below_drew1 | refine below_set ?_ GE173.out | refine below_set ?_ GE185.out) | exact HB.out)⟩⟩
                · replace c29 := Bool.eq_false_iff.mpr c29
                  subst c29
                  have H1 : (castellanlaw7_IcmpBack.j1 kj6 a4 a5 t174 true) = some r := by rw [if_neg (show ¬ (false = true) by decide)] at H; exact H
                  clear H
                  have H := H1
                  clear H1
                  have H' := Aside0.mk H
                  clear H
                  have hnb34 := NB173_185.out
                  have hnc34 := NB185_173.out
                  have hcz35_0 : w20.cell? ⟨gb173, 0, none⟩ = some (.int .i64 (wrap64 (a0))) := (blk_cell BK173.out 0).trans rfl
                  have hcz35_1 : w20.cell? ⟨gb173, 1, none⟩ = some (.int .i64 (wrap64 (a1))) := (blk_cell BK173.out 1).trans rfl
                  have hcz35_2 : w20.cell? ⟨gb173, 2, none⟩ = some (.int .u32 a2) := (blk_cell BK173.out 2).trans rfl
                  have hcz35_3 : w20.cell? ⟨gb173, 3, none⟩ = some (.slice A3 l3.length c3) := (blk_cell BK173.out 3).trans rfl
                  have hfz35_0 := blk_frozen BK173.out 0
                  have hfz35_1 := blk_frozen BK173.out 1
                  have hfz35_2 := blk_frozen BK173.out 2
                  have hfz35_3 := blk_frozen BK173.out 3
                  have hcz36_0 : w20.cell? ⟨gb185, 0, none⟩ = some (.int .i64 0) := (blk_cell BK185.out 0).trans rfl
                  have hcz36_1 : w20.cell? ⟨gb185, 1, none⟩ = some (.int .i64 0) := (blk_cell BK185.out 1).trans rfl
                  have hcz36_2 : w20.cell? ⟨gb185, 2, none⟩ = some (.int .u32 0) := (blk_cell BK185.out 2).trans rfl
                  have hcz36_3 : w20.cell? ⟨gb185, 3, none⟩ = some (.slice none 0 0) := (blk_cell BK185.out 3).trans rfl
                  have hfz36_0 := blk_frozen BK185.out 0
                  have hfz36_1 := blk_frozen BK185.out 1
                  have hfz36_2 := blk_frozen BK185.out 2
                  have hfz36_3 := blk_frozen BK185.out 3
                  go_wp2_with (first | (go_at_call 30; (with_reducible refine (castellanref7_Same.calls (wrap64 (a0)) (wrap64 (a1)) a2 _ _ l3 t178 t179 t180 _ _ t181 true _ ?side1 ?side2 ?side3 ?side4 A26.out).mono ?_); (case side1 => exact Kd.C_below HR3.out (by repeat (first | (with_reducible first | exact HB.out | apply below_alloc | apply pw_below_drewN | apply below_drew1 | refine below_set ?_ GE173.out | refine below_set ?_ GE185.out) | exact HB.out))); (case side2 => exact HC3.out); (case side3 => refine (Kd.R_reads' (e := 5) (base := w.heap.size) (ok := fun k_ => (True ∧ some k_ ≠ (.slice Ao18 t174.length co18 : Value).ownBlock)) (n := t181.length) (c := co23) ?_).2.2; exact (by (with_reducible repeat (first | apply Kd.R_alloc | apply Kd.R_drewN | apply Kd.R_drew)); exact (Kd.R_mono (Kd.R_far (p := ⟨gb185, 3, none⟩) (Kd.R_far (p := ⟨gb185, 2, none⟩) (Kd.R_far (p := ⟨gb185, 1, none⟩) (Kd.R_far (p := ⟨gb185, 0, none⟩) (Kd.R_types HO183.out BK185.out (by decide)) (fun _ hk => hk.2) (.int .i64 t178)) (fun _ hk => hk.2) (.int .i64 t179)) (fun _ hk => hk.2) (.int .u32 t180)) (fun _ hk => hk.2) (.slice Ao23 t181.length co23)) (fun _ h_ => h_.1)))); (case side4 => exact (Kd.R_reads' HO183.out).2.1); rintro e w37 ⟨rfl, hb⟩; have n0_ := Aside0.mk (Kd.R_below (by (with_reducible repeat (first | apply Kd.R_alloc | apply Kd.R_drewN | apply Kd.R_drew)); exact (Kd.R_mono (Kd.R_far (p := ⟨gb185, 3, none⟩) (Kd.R_far (p := ⟨gb185, 2, none⟩) (Kd.R_far (p := ⟨gb185, 1, none⟩) (Kd.R_far (p := ⟨gb185, 0, none⟩) (Kd.R_types HO176.out BK185.out (by decide)) (fun _ hk => hk.2) (.int .i64 t178)) (fun _ hk => hk.2) (.int .i64 t179)) (fun _ hk => hk.2) (.int .u32 t180)) (fun _ hk => hk.2) (.slice Ao23 t181.length co23)) (fun _ h_ => h_.1))) hb); have n1_ := Aside0.mk (Kd.R_below (by (with_reducible repeat (first | apply Kd.R_alloc | apply Kd.R_drewN | apply Kd.R_drew)); exact (Kd.R_mono (Kd.R_far (p := ⟨gb185, 3, none⟩) (Kd.R_far (p := ⟨gb185, 2, none⟩) (Kd.R_far (p := ⟨gb185, 1, none⟩) (Kd.R_far (p := ⟨gb185, 0, none⟩) (Kd.R_types HO183.out BK185.out (by decide)) (fun _ hk => hk.2) (.int .i64 t178)) (fun _ hk => hk.2) (.int .i64 t179)) (fun _ hk => hk.2) (.int .u32 t180)) (fun _ hk => hk.2) (.slice Ao23 t181.length co23)) (fun _ h_ => h_.1))) hb); have n2_ := Aside0.mk (blk_below (g := gb173) (o := .cells #[.int .i64 (wrap64 (a0)), .int .i64 (wrap64 (a1)), .int .u32 a2, .slice A3 l3.length c3] 41 (0, 0)) (by (with_reducible repeat (first | refine blk_drewN ?_ _ | refine blk_drew ?_ | refine blk_alloc ?_ _)); refine blk_far ?_ NB173_185.out _; (with_reducible repeat (first | refine blk_drewN ?_ _ | refine blk_drew ?_ | refine blk_alloc ?_ _)); refine blk_far ?_ NB173_185.out _; (with_reducible repeat (first | refine blk_drewN ?_ _ | refine blk_drew ?_ | refine blk_alloc ?_ _)); refine blk_far ?_ NB173_185.out _; (with_reducible repeat (first | refine blk_drewN ?_ _ | refine blk_drew ?_ | refine blk_alloc ?_ _)); refine blk_far ?_ NB173_185.out _; (with_reducible repeat (first | refine blk_drewN ?_ _ | refine blk_drew ?_ | refine blk_alloc ?_ _)); exact BK173.out) hb); have n3_ := Aside0.mk (blk_below (g := gb185) (o := .cells #[.int .i64 t178, .int .i64 t179, .int .u32 t180, .slice Ao23 t181.length co23] 41 (0, 0)) (by (with_reducible repeat (first | refine blk_drewN ?_ _ | refine blk_drew ?_ | refine blk_alloc ?_ _)); refine blk_put (cs := #[.int .i64 t178, .int .i64 t179, .int .u32 t180, .slice none 0 0]) ?_ 3 _ rfl; (with_reducible repeat (first | refine blk_drewN ?_ _ | refine blk_drew ?_ | refine blk_alloc ?_ _)); refine blk_put (cs := #[.int .i64 t178, .int .i64 t179, .int .u32 0, .slice none 0 0]) ?_ 2 _ rfl; (with_reducible repeat (first | refine blk_drewN ?_ _ | refine blk_drew ?_ | refine blk_alloc ?_ _)); refine blk_put (cs := #[.int .i64 t178, .int .i64 0, .int .u32 0, .slice none 0 0]) ?_ 1 _ rfl; (with_reducible repeat (first | refine blk_drewN ?_ _ | refine blk_drew ?_ | refine blk_alloc ?_ _)); refine blk_put (cs := #[.int .i64 0, .int .i64 0, .int .u32 0, .slice none 0 0]) ?_ 0 _ rfl; (with_reducible repeat (first | refine blk_drewN ?_ _ | refine blk_drew ?_ | refine blk_alloc ?_ _)); exact BK185.out) hb); have n4_ := Aside0.mk (below_step (by repeat (first | (with_reducible first | exact HB.out | apply below_alloc | apply pw_below_drewN | apply below_drew1 | refine below_set ?_ GE173.out | refine below_set ?_ GE185.out) | exact HB.out)) hb); clear HO176; clear HO183; clear BK173; clear BK185; clear HB; have HO176 := n0_; have HO183 := n1_; have BK173 := n2_; have BK185 := n3_; have HB := n4_; clear n0_ n1_ n2_ n3_ n4_; (try clear hb); (try clear hb2); (try clear hk); (try clear hi)) | (go_at_call 31; (with_reducible refine (castellanref2_Right.calls kj6 _ _ t174 false _ ?side1 ?side2 A28.out).mono ?_); (case side1 => repeat (first | exact (Kd.R_reads' HO176.out).2.2 | (with_reducible refine Kd.C_alloc ?_ _) | (with_reducible refine Kd.C_drewN ?_ _) | (with_reducible refine Kd.C_drew ?_))); (case side2 => exact (Kd.R_reads' HO176.out).2.1); rintro e w' ⟨rfl, ⟨nd, rfl⟩⟩))
                  go_meet
                  case rel => exact ⟨_, (true), (by first | rfl | (simp; done) | (simp [*]; done)), H', ⟨by have := HJ6.out; first | omega | exact Nat.le_refl _⟩, ⟨by (with_reducible repeat (first | apply Kd.R_alloc | apply Kd.R_drewN | apply Kd.R_drew)); exact Kd.R_mono HO176.out (fun _ hk => hk.2)⟩, ⟨by (with_reducible repeat (first | apply Kd.R_alloc | apply Kd.R_drewN | apply Kd.R_drew)); exact Kd.R_mono HO183.out (fun _ hk => hk.2)⟩, ⟨by (with_reducible repeat (first | refine blk_drewN ?_ _ | refine blk_drew ?_ | refine blk_alloc ?_ _)); exact BK173.out⟩, ⟨by (with_reducible repeat (first | refine blk_drewN ?_ _ | refine blk_drew ?_ | refine blk_alloc ?_ _)); exact BK185.out⟩, ⟨by repeat (first | (with_reducible first | exact HB.out | apply below_alloc | apply pw_below_drewN | apply below_drew1 | refine below_set ?_ GE173.out | refine below_set ?_ GE185.out) | exact HB.out)⟩⟩
              · replace c27 := Bool.eq_false_iff.mpr c27
                subst c27
                have H1 : (castellanlaw7_IcmpBack.j1 kj6 a4 a5 t174 true) = some r := by rw [if_neg (show ¬ (false = true) by decide)] at H; exact H
                clear H
                have H := H1
                clear H1
                have H' := Aside0.mk H
                clear H
                have hnb38 := NB173_185.out
                have hnc38 := NB185_173.out
                have hcz39_0 : w20.cell? ⟨gb173, 0, none⟩ = some (.int .i64 (wrap64 (a0))) := (blk_cell BK173.out 0).trans rfl
                have hcz39_1 : w20.cell? ⟨gb173, 1, none⟩ = some (.int .i64 (wrap64 (a1))) := (blk_cell BK173.out 1).trans rfl
                have hcz39_2 : w20.cell? ⟨gb173, 2, none⟩ = some (.int .u32 a2) := (blk_cell BK173.out 2).trans rfl
                have hcz39_3 : w20.cell? ⟨gb173, 3, none⟩ = some (.slice A3 l3.length c3) := (blk_cell BK173.out 3).trans rfl
                have hfz39_0 := blk_frozen BK173.out 0
                have hfz39_1 := blk_frozen BK173.out 1
                have hfz39_2 := blk_frozen BK173.out 2
                have hfz39_3 := blk_frozen BK173.out 3
                have hcz40_0 : w20.cell? ⟨gb185, 0, none⟩ = some (.int .i64 0) := (blk_cell BK185.out 0).trans rfl
                have hcz40_1 : w20.cell? ⟨gb185, 1, none⟩ = some (.int .i64 0) := (blk_cell BK185.out 1).trans rfl
                have hcz40_2 : w20.cell? ⟨gb185, 2, none⟩ = some (.int .u32 0) := (blk_cell BK185.out 2).trans rfl
                have hcz40_3 : w20.cell? ⟨gb185, 3, none⟩ = some (.slice none 0 0) := (blk_cell BK185.out 3).trans rfl
                have hfz40_0 := blk_frozen BK185.out 0
                have hfz40_1 := blk_frozen BK185.out 1
                have hfz40_2 := blk_frozen BK185.out 2
                have hfz40_3 := blk_frozen BK185.out 3
                go_wp2_with (first | (go_at_call 30; (with_reducible refine (castellanref7_Same.calls (wrap64 (a0)) (wrap64 (a1)) a2 _ _ l3 t178 t179 t180 _ _ t181 false _ ?side1 ?side2 ?side3 ?side4 A26.out).mono ?_); (case side1 => exact Kd.C_below HR3.out (by repeat (first | (with_reducible first | exact HB.out | apply below_alloc | apply pw_below_drewN | apply below_drew1 | refine below_set ?_ GE173.out | refine below_set ?_ GE185.out) | exact HB.out))); (case side2 => exact HC3.out); (case side3 => refine (Kd.R_reads' (e := 5) (base := w.heap.size) (ok := fun k_ => (True ∧ some k_ ≠ (.slice Ao18 t174.length co18 : Value).ownBlock)) (n := t181.length) (c := co23) ?_).2.2; exact (by (with_reducible repeat (first | apply Kd.R_alloc | apply Kd.R_drewN | apply Kd.R_drew)); exact (Kd.R_mono (Kd.R_far (p := ⟨gb185, 3, none⟩) (Kd.R_far (p := ⟨gb185, 2, none⟩) (Kd.R_far (p := ⟨gb185, 1, none⟩) (Kd.R_far (p := ⟨gb185, 0, none⟩) (Kd.R_types HO183.out BK185.out (by decide)) (fun _ hk => hk.2) (.int .i64 t178)) (fun _ hk => hk.2) (.int .i64 t179)) (fun _ hk => hk.2) (.int .u32 t180)) (fun _ hk => hk.2) (.slice Ao23 t181.length co23)) (fun _ h_ => h_.1)))); (case side4 => exact (Kd.R_reads' HO183.out).2.1); rintro e w41 ⟨rfl, hb⟩; have n0_ := Aside0.mk (Kd.R_below (by (with_reducible repeat (first | apply Kd.R_alloc | apply Kd.R_drewN | apply Kd.R_drew)); exact (Kd.R_mono (Kd.R_far (p := ⟨gb185, 3, none⟩) (Kd.R_far (p := ⟨gb185, 2, none⟩) (Kd.R_far (p := ⟨gb185, 1, none⟩) (Kd.R_far (p := ⟨gb185, 0, none⟩) (Kd.R_types HO176.out BK185.out (by decide)) (fun _ hk => hk.2) (.int .i64 t178)) (fun _ hk => hk.2) (.int .i64 t179)) (fun _ hk => hk.2) (.int .u32 t180)) (fun _ hk => hk.2) (.slice Ao23 t181.length co23)) (fun _ h_ => h_.1))) hb); have n1_ := Aside0.mk (Kd.R_below (by (with_reducible repeat (first | apply Kd.R_alloc | apply Kd.R_drewN | apply Kd.R_drew)); exact (Kd.R_mono (Kd.R_far (p := ⟨gb185, 3, none⟩) (Kd.R_far (p := ⟨gb185, 2, none⟩) (Kd.R_far (p := ⟨gb185, 1, none⟩) (Kd.R_far (p := ⟨gb185, 0, none⟩) (Kd.R_types HO183.out BK185.out (by decide)) (fun _ hk => hk.2) (.int .i64 t178)) (fun _ hk => hk.2) (.int .i64 t179)) (fun _ hk => hk.2) (.int .u32 t180)) (fun _ hk => hk.2) (.slice Ao23 t181.length co23)) (fun _ h_ => h_.1))) hb); have n2_ := Aside0.mk (blk_below (g := gb173) (o := .cells #[.int .i64 (wrap64 (a0)), .int .i64 (wrap64 (a1)), .int .u32 a2, .slice A3 l3.length c3] 41 (0, 0)) (by (with_reducible repeat (first | refine blk_drewN ?_ _ | refine blk_drew ?_ | refine blk_alloc ?_ _)); refine blk_far ?_ NB173_185.out _; (with_reducible repeat (first | refine blk_drewN ?_ _ | refine blk_drew ?_ | refine blk_alloc ?_ _)); refine blk_far ?_ NB173_185.out _; (with_reducible repeat (first | refine blk_drewN ?_ _ | refine blk_drew ?_ | refine blk_alloc ?_ _)); refine blk_far ?_ NB173_185.out _; (with_reducible repeat (first | refine blk_drewN ?_ _ | refine blk_drew ?_ | refine blk_alloc ?_ _)); refine blk_far ?_ NB173_185.out _; (with_reducible repeat (first | refine blk_drewN ?_ _ | refine blk_drew ?_ | refine blk_alloc ?_ _)); exact BK173.out) hb); have n3_ := Aside0.mk (blk_below (g := gb185) (o := .cells #[.int .i64 t178, .int .i64 t179, .int .u32 t180, .slice Ao23 t181.length co23] 41 (0, 0)) (by (with_reducible repeat (first | refine blk_drewN ?_ _ | refine blk_drew ?_ | refine blk_alloc ?_ _)); refine blk_put (cs := #[.int .i64 t178, .int .i64 t179, .int .u32 t180, .slice none 0 0]) ?_ 3 _ rfl; (with_reducible repeat (first | refine blk_drewN ?_ _ | refine blk_drew ?_ | refine blk_alloc ?_ _)); refine blk_put (cs := #[.int .i64 t178, .int .i64 t179, .int .u32 0, .slice none 0 0]) ?_ 2 _ rfl; (with_reducible repeat (first | refine blk_drewN ?_ _ | refine blk_drew ?_ | refine blk_alloc ?_ _)); refine blk_put (cs := #[.int .i64 t178, .int .i64 0, .int .u32 0, .slice none 0 0]) ?_ 1 _ rfl; (with_reducible repeat (first | refine blk_drewN ?_ _ | refine blk_drew ?_ | refine blk_alloc ?_ _)); refine blk_put (cs := #[.int .i64 0, .int .i64 0, .int .u32 0, .slice none 0 0]) ?_ 0 _ rfl; (with_reducible repeat (first | refine blk_drewN ?_ _ | refine blk_drew ?_ | refine blk_alloc ?_ _)); exact BK185.out) hb); have n4_ := Aside0.mk (below_step (by repeat (first | (with_reducible first | exact HB.out | apply below_alloc | apply pw_below_drewN | apply below_drew1 | refine below_set ?_ GE173.out | refine below_set ?_ GE185.out) | exact HB.out)) hb); clear HO176; clear HO183; clear BK173; clear BK185; clear HB; have HO176 := n0_; have HO183 := n1_; have BK173 := n2_; have BK185 := n3_; have HB := n4_; clear n0_ n1_ n2_ n3_ n4_; (try clear hb); (try clear hb2); (try clear hk); (try clear hi)))
                go_meet
                case rel => exact ⟨_, (true), (by first | rfl | (simp; done) | (simp [*]; done)), H', ⟨by have := HJ6.out; first | omega | exact Nat.le_refl _⟩, ⟨by (with_reducible repeat (first | apply Kd.R_alloc | apply Kd.R_drewN | apply Kd.R_drew)); exact Kd.R_mono HO176.out (fun _ hk => hk.2)⟩, ⟨by (with_reducible repeat (first | apply Kd.R_alloc | apply Kd.R_drewN | apply Kd.R_drew)); exact Kd.R_mono HO183.out (fun _ hk => hk.2)⟩, ⟨by (with_reducible repeat (first | refine blk_drewN ?_ _ | refine blk_drew ?_ | refine blk_alloc ?_ _)); exact BK173.out⟩, ⟨by (with_reducible repeat (first | refine blk_drewN ?_ _ | refine blk_drew ?_ | refine blk_alloc ?_ _)); exact BK185.out⟩, ⟨by repeat (first | (with_reducible first | exact HB.out | apply below_alloc | apply pw_below_drewN | apply below_drew1 | refine below_set ?_ GE173.out | refine below_set ?_ GE185.out) | exact HB.out)⟩⟩
            · rw [if_neg c25] at H
              have c25b0 : (t184 == 0) = false := beq_eq_false_iff_ne.mpr c25
              have c25b1 : (t184 != 0) = true := bne_iff_ne.mpr c25
              have H' := Aside0.mk H
              clear H
              go_wp2
              go_meet
              case rel => exact ⟨_, (true), (by first | rfl | (simp; done) | (simp [*]; done)), H', ⟨by have := HJ6.out; first | omega | exact Nat.le_refl _⟩, ⟨by (with_reducible repeat (first | apply Kd.R_alloc | apply Kd.R_drewN | apply Kd.R_drew)); exact Kd.R_mono (Kd.R_far (p := ⟨gb185, 3, none⟩) (Kd.R_far (p := ⟨gb185, 2, none⟩) (Kd.R_far (p := ⟨gb185, 1, none⟩) (Kd.R_far (p := ⟨gb185, 0, none⟩) (Kd.R_types HO176.out BK185.out (by decide)) (fun _ hk => hk.2) (.int .i64 t178)) (fun _ hk => hk.2) (.int .i64 t179)) (fun _ hk => hk.2) (.int .u32 t180)) (fun _ hk => hk.2) (.slice Ao23 t181.length co23)) (fun _ hk => hk.1.2)⟩, ⟨by (with_reducible repeat (first | apply Kd.R_alloc | apply Kd.R_drewN | apply Kd.R_drew)); exact Kd.R_mono (Kd.R_far (p := ⟨gb185, 3, none⟩) (Kd.R_far (p := ⟨gb185, 2, none⟩) (Kd.R_far (p := ⟨gb185, 1, none⟩) (Kd.R_far (p := ⟨gb185, 0, none⟩) (Kd.R_types HO183.out BK185.out (by decide)) (fun _ hk => hk.2) (.int .i64 t178)) (fun _ hk => hk.2) (.int .i64 t179)) (fun _ hk => hk.2) (.int .u32 t180)) (fun _ hk => hk.2) (.slice Ao23 t181.length co23)) (fun _ hk => hk.1.2)⟩, ⟨by (with_reducible repeat (first | refine blk_drewN ?_ _ | refine blk_drew ?_ | refine blk_alloc ?_ _)); refine blk_far ?_ NB173_185.out _; (with_reducible repeat (first | refine blk_drewN ?_ _ | refine blk_drew ?_ | refine blk_alloc ?_ _)); refine blk_far ?_ NB173_185.out _; (with_reducible repeat (first | refine blk_drewN ?_ _ | refine blk_drew ?_ | refine blk_alloc ?_ _)); refine blk_far ?_ NB173_185.out _; (with_reducible repeat (first | refine blk_drewN ?_ _ | refine blk_drew ?_ | refine blk_alloc ?_ _)); refine blk_far ?_ NB173_185.out _; (with_reducible repeat (first | refine blk_drewN ?_ _ | refine blk_drew ?_ | refine blk_alloc ?_ _)); exact BK173.out⟩, ⟨by (with_reducible repeat (first | refine blk_drewN ?_ _ | refine blk_drew ?_ | refine blk_alloc ?_ _)); refine blk_put (cs := #[.int .i64 t178, .int .i64 t179, .int .u32 t180, .slice none 0 0]) ?_ 3 _ rfl; (with_reducible repeat (first | refine blk_drewN ?_ _ | refine blk_drew ?_ | refine blk_alloc ?_ _)); refine blk_put (cs := #[.int .i64 t178, .int .i64 t179, .int .u32 0, .slice none 0 0]) ?_ 2 _ rfl; (with_reducible repeat (first | refine blk_drewN ?_ _ | refine blk_drew ?_ | refine blk_alloc ?_ _)); refine blk_put (cs := #[.int .i64 t178, .int .i64 0, .int .u32 0, .slice none 0 0]) ?_ 1 _ rfl; (with_reducible repeat (first | refine blk_drewN ?_ _ | refine blk_drew ?_ | refine blk_alloc ?_ _)); refine blk_put (cs := #[.int .i64 0, .int .i64 0, .int .u32 0, .slice none 0 0]) ?_ 0 _ rfl; (with_reducible repeat (first | refine blk_drewN ?_ _ | refine blk_drew ?_ | refine blk_alloc ?_ _)); exact BK185.out⟩, ⟨by repeat (first | (with_reducible first | exact HB.out | apply below_alloc | apply pw_below_drewN | apply below_drew1 | refine below_set ?_ GE173.out | refine below_set ?_ GE185.out) | exact HB.out)⟩⟩
          · rw [if_neg c24] at H
            have c24b0 : (t177 == 0) = false := beq_eq_false_iff_ne.mpr c24
            have c24b1 : (t177 != 0) = true := bne_iff_ne.mpr c24
            (first | rw [c24b0] | (simp only [i64_w, i32_w]; rw [c24b0]) | skip)
            have H' := Aside0.mk H
            clear H
            go_wp2
            go_meet
            case rel => exact ⟨_, (true), (by first | rfl | (simp; done) | (simp [*]; done)), H', ⟨by have := HJ6.out; first | omega | exact Nat.le_refl _⟩, ⟨by (with_reducible repeat (first | apply Kd.R_alloc | apply Kd.R_drewN | apply Kd.R_drew)); exact Kd.R_mono (Kd.R_far (p := ⟨gb185, 3, none⟩) (Kd.R_far (p := ⟨gb185, 2, none⟩) (Kd.R_far (p := ⟨gb185, 1, none⟩) (Kd.R_far (p := ⟨gb185, 0, none⟩) (Kd.R_types HO176.out BK185.out (by decide)) (fun _ hk => hk.2) (.int .i64 t178)) (fun _ hk => hk.2) (.int .i64 t179)) (fun _ hk => hk.2) (.int .u32 t180)) (fun _ hk => hk.2) (.slice Ao23 t181.length co23)) (fun _ hk => hk.1.2)⟩, ⟨by (with_reducible repeat (first | apply Kd.R_alloc | apply Kd.R_drewN | apply Kd.R_drew)); exact Kd.R_mono (Kd.R_far (p := ⟨gb185, 3, none⟩) (Kd.R_far (p := ⟨gb185, 2, none⟩) (Kd.R_far (p := ⟨gb185, 1, none⟩) (Kd.R_far (p := ⟨gb185, 0, none⟩) (Kd.R_types HO183.out BK185.out (by decide)) (fun _ hk => hk.2) (.int .i64 t178)) (fun _ hk => hk.2) (.int .i64 t179)) (fun _ hk => hk.2) (.int .u32 t180)) (fun _ hk => hk.2) (.slice Ao23 t181.length co23)) (fun _ hk => hk.1.2)⟩, ⟨by (with_reducible repeat (first | refine blk_drewN ?_ _ | refine blk_drew ?_ | refine blk_alloc ?_ _)); refine blk_far ?_ NB173_185.out _; (with_reducible repeat (first | refine blk_drewN ?_ _ | refine blk_drew ?_ | refine blk_alloc ?_ _)); refine blk_far ?_ NB173_185.out _; (with_reducible repeat (first | refine blk_drewN ?_ _ | refine blk_drew ?_ | refine blk_alloc ?_ _)); refine blk_far ?_ NB173_185.out _; (with_reducible repeat (first | refine blk_drewN ?_ _ | refine blk_drew ?_ | refine blk_alloc ?_ _)); refine blk_far ?_ NB173_185.out _; (with_reducible repeat (first | refine blk_drewN ?_ _ | refine blk_drew ?_ | refine blk_alloc ?_ _)); exact BK173.out⟩, ⟨by (with_reducible repeat (first | refine blk_drewN ?_ _ | refine blk_drew ?_ | refine blk_alloc ?_ _)); refine blk_put (cs := #[.int .i64 t178, .int .i64 t179, .int .u32 t180, .slice none 0 0]) ?_ 3 _ rfl; (with_reducible repeat (first | refine blk_drewN ?_ _ | refine blk_drew ?_ | refine blk_alloc ?_ _)); refine blk_put (cs := #[.int .i64 t178, .int .i64 t179, .int .u32 0, .slice none 0 0]) ?_ 2 _ rfl; (with_reducible repeat (first | refine blk_drewN ?_ _ | refine blk_drew ?_ | refine blk_alloc ?_ _)); refine blk_put (cs := #[.int .i64 t178, .int .i64 0, .int .u32 0, .slice none 0 0]) ?_ 1 _ rfl; (with_reducible repeat (first | refine blk_drewN ?_ _ | refine blk_drew ?_ | refine blk_alloc ?_ _)); refine blk_put (cs := #[.int .i64 0, .int .i64 0, .int .u32 0, .slice none 0 0]) ?_ 0 _ rfl; (with_reducible repeat (first | refine blk_drewN ?_ _ | refine blk_drew ?_ | refine blk_alloc ?_ _)); exact BK185.out⟩, ⟨by repeat (first | (with_reducible first | exact HB.out | apply below_alloc | apply pw_below_drewN | apply below_drew1 | refine below_set ?_ GE173.out | refine below_set ?_ GE185.out) | exact HB.out)⟩⟩
        case rest =>
          clear HC12
          try clear c1
          try clear c2
          try clear p2
          try clear c3
          try clear p6
          try clear c8
          try clear c8b0
          try clear c8b1
          try clear c9
          try clear c10
          try clear c21
          try clear c24
          try clear c24b0
          try clear c24b1
          try clear c25
          try clear c25b0
          try clear c25b1
          try clear c27
          try clear c29
          try clear c30
          try clear c34
          try clear c38
          try clear hcz14_0
          try clear hcz14_1
          try clear hcz14_2
          try clear hcz14_3
          try clear hcz16_0
          try clear hcz16_1
          try clear hcz16_2
          try clear hcz16_3
          try clear hcz22_0
          try clear hcz22_1
          try clear hcz22_2
          try clear hcz22_3
          try clear hcz31_0
          try clear hcz31_1
          try clear hcz31_2
          try clear hcz31_3
          try clear hcz32_0
          try clear hcz32_1
          try clear hcz32_2
          try clear hcz32_3
          try clear hcz35_0
          try clear hcz35_1
          try clear hcz35_2
          try clear hcz35_3
          try clear hcz36_0
          try clear hcz36_1
          try clear hcz36_2
          try clear hcz36_3
          try clear hcz39_0
          try clear hcz39_1
          try clear hcz39_2
          try clear hcz39_3
          try clear hcz40_0
          try clear hcz40_1
          try clear hcz40_2
          try clear hcz40_3
          try clear hfz14_0
          try clear hfz14_1
          try clear hfz14_2
          try clear hfz14_3
          try clear hfz16_0
          try clear hfz16_1
          try clear hfz16_2
          try clear hfz16_3
          try clear hfz22_0
          try clear hfz22_1
          try clear hfz22_2
          try clear hfz22_3
          try clear hfz31_0
          try clear hfz31_1
          try clear hfz31_2
          try clear hfz31_3
          try clear hfz32_0
          try clear hfz32_1
          try clear hfz32_2
          try clear hfz32_3
          try clear hfz35_0
          try clear hfz35_1
          try clear hfz35_2
          try clear hfz35_3
          try clear hfz36_0
          try clear hfz36_1
          try clear hfz36_2
          try clear hfz36_3
          try clear hfz39_0
          try clear hfz39_1
          try clear hfz39_2
          try clear hfz39_3
          try clear hfz40_0
          try clear hfz40_1
          try clear hfz40_2
          try clear hfz40_3
          try clear p2
          obtain ⟨kq, x65_11, rfl, HA, HJ11, HO_14, HO_186003, BK173, BK185, HB⟩ := hcut
          cases kq with
          | zero => exact absurd HA.out (by simp [castellanlaw7_IcmpBack.j1])
          | succ kj11 =>
            have H := HA.out
            clear HA
            simp only [castellanlaw7_IcmpBack.j1] at H
            by_cases c42 : x65_11 = true
            · subst c42
              have H1 : (some false) = some r := by rw [if_pos rfl] at H; exact H
              clear H
              have H := H1
              clear H1
              exact absurd (H.trans (congrArg some HRT.out)) (by simp)
            · replace c42 := Bool.eq_false_iff.mpr c42
              subst c42
              have H1 : (if (t174.length : Int) = 0 then (none) else (if 0 ≤ (Int.tmod (Go.bits .and .i64 a4 65535) (t174.length : Int)) then (if (Int.tmod (Go.bits .and .i64 a4 65535) (t174.length : Int)) < (t174.length : Int) then ((icmp_Parse.f kj11 (t174.set ((Int.tmod (Go.bits .and .i64 a4 65535) (t174.length : Int)) : Int).toNat (Go.bits .xor .u8 (rd t174 (Int.tmod (Go.bits .and .i64 a4 65535) (t174.length : Int))) a5))).bind fun bt190 => (if bt190.2.2.2.2 = 4 then ((castellanlaw7_known.f).bind fun t198 => (some t198)) else (some false))) else (none)) else (none))) = some r := by rw [if_neg (show ¬ (false = true) by decide)] at H; exact H
              clear H
              have H := H1
              clear H1
              by_cases c43 : (t174.length : Int) = 0
              · rw [if_pos c43] at H
                exact absurd H (by simp)
              · rw [if_neg c43] at H
                have c43b0 : ((t174.length : Int) == 0) = false := beq_eq_false_iff_ne.mpr c43
                have c43b1 : ((t174.length : Int) != 0) = true := bne_iff_ne.mpr c43
                have c43b2 : ¬ (t174 = []) := fun h_ => c43 (by rw [h_]; rfl)
                obtain ⟨ji44, hji44⟩ : ∃ j_ : Int, (Int.tmod (Go.bits .and .i64 a4 65535) (t174.length : Int)) = j_ := ⟨_, rfl⟩
                replace H : (if 0 ≤ (ji44) then (if (ji44) < (t174.length : Int) then ((icmp_Parse.f kj11 (t174.set ((ji44) : Int).toNat (Go.bits .xor .u8 (rd t174 (ji44)) a5))).bind fun bt190 => (if bt190.2.2.2.2 = 4 then ((castellanlaw7_known.f).bind fun t198 => (some t198)) else (some false))) else (none)) else (none)) = some r := by first | (rw [hji44] at H; exact H) | (simp only [hji44] at H ⊢; exact H)
                by_cases c45 : 0 ≤ (ji44)
                · rw [if_pos c45] at H
                  have c45b0 : decide (0 ≤ (ji44)) = true := decide_eq_true c45
                  clear c45
                  by_cases c46 : (ji44) < (t174.length : Int)
                  · rw [if_pos c46] at H
                    have c46b0 : decide ((ji44) < (t174.length : Int)) = true := decide_eq_true c46
                    clear c46
                    obtain ⟨y189, hy189⟩ : ∃ y_ : List Int, y_ = (t174.set ((ji44) : Int).toNat (Go.bits .xor .u8 (rd t174 (ji44)) a5)) := ⟨_, rfl⟩
                    replace H : ((icmp_Parse.f kj11 y189).bind fun bt190 => (if bt190.2.2.2.2 = 4 then ((castellanlaw7_known.f).bind fun t198 => (some t198)) else (some false))) = some r := by first | (rw [hy189]; with_reducible exact H) | (have H2_ := (Option.bind_some _ _).symm.trans H; rw [hy189]; with_reducible exact H2_) | (have H2_ := (Option.bind_some _ _).symm.trans H; with_reducible exact H2_) | with_reducible exact H | (rw [hy189]; exact H) | exact H
                    have Ny189 := Aside0.mk hy189
                    clear hy189
                    replace H := Option.bind_eq_some_iff.mp H
                    obtain ⟨⟨t190, t191, t192, t193, t196⟩, A480, H⟩ := H
                    replace H : (if t196 = 4 then ((castellanlaw7_known.f).bind fun t198 => (some t198)) else (some false)) = some r := H
                    have A48 := Aside0.mk A480
                    clear A480
                    by_cases c49 : t196 = 4
                    · rw [if_pos c49] at H
                      have c49b0 : (t196 == 4) = true := beq_iff_eq.mpr c49
                      have c49b1 : (t196 != 4) = false := bne_eq_false_iff_eq.mpr c49
                      clear c49
                      replace H := Option.bind_eq_some_iff.mp H
                      obtain ⟨t198, A500, H⟩ := H
                      replace H : (some t198) = some r := H
                      have A50 := Aside0.mk A500
                      clear A500
                      obtain rfl := Option.some.inj H
                      have p188 : 0 ≤ ((ji44) : Int) := of_decide_eq_true (by first | (with_reducible assumption) | assumption)
                      have q188 : (ji44) < (t174.length : Int) := of_decide_eq_true (by first | (with_reducible assumption) | assumption)
                      obtain ⟨ad188, e188, hx188_0⟩ := Kd.at_int (Kd.R_reads' HO_14.out).2.2 (ji44) p188 q188
                      cases e188
                      replace p188 := eq_true p188
                      replace q188 := eq_true q188
                      have p47 : 0 ≤ ((ji44) : Int) := of_decide_eq_true (by first | (with_reducible assumption) | assumption)
                      have q47 : ((ji44) : Int) < ((t174.length : Int) : Int) := of_decide_eq_true (by first | (with_reducible assumption) | assumption)
                      obtain ⟨go47, co47, eo47, gb47, gl47, cl47, HG47⟩ := Kd.R_form HO_14.out (by omega)
                      (first | cases eo47 | (injection eo47 with ea_ en_ ec_; (first | subst ea_ | (injection ea_ with ea_; subst ea_)); subst ec_; clear en_))
                      have GB47 := Aside0.mk gb47
                      have GG47 := Aside0.mk HG47
                      clear gb47 gl47 HG47
                      (first | simp only [add_plain] at hx188_0 | skip)
                      obtain ⟨hx47_0, hf47_0⟩ := Kd.R_celln 0 HO_14.out ((ji44) : Int) p47 q47
                      replace p47 := eq_true p47
                      replace q47 := eq_true q47
                      have HP51 := Kd.R_putg HO_14.out ((ji44) : Int) (Go.bits .xor .u8 (rd t174 (ji44)) a5)
                      go_wp2_with (first | ((with_reducible refine gate_store (t := 5) (p := 76) rfl ?_); refine store_event (t := 5) (p := 76) (v := ?vo_w52) (w1 := (wc.setCell ⟨go47, ((ji44) : Int).toNat, none⟩ (.int .u8 (Go.bits .xor .u8 (rd t174 (ji44)) a5)))) ?hg ?ho ?hn ?hr ?_; (case ho => rfl); (case hg => rfl); (case hn => rfl); (case hr => first | (go_simp; done) | (go_simp; rfl)); intro w52 hw; have hg : wc.grownBy w52 (some go47) := (by rw [hw]; exact HP51.2); have hp_ : Kd.R (Kd.int .u8) 5 w52 w.heap.size (fun k_ => some k_ ≠ (.slice Ao23 t181.length co23 : Value).ownBlock) (.slice (some ⟨go47, 0, none⟩) t174.length co18) y189 := (by rw [hw, Ny189.out]; exact HP51.1); clear HP51; have n0_ := Aside0.mk (hp_); have n1_ := Aside0.mk (Kd.R_after (v := (.slice (some ⟨go47, 0, none⟩) t174.length co18)) (v1 := (.slice (some ⟨go47, 0, none⟩) t174.length co18)) (ok := (fun _ => True)) (by (with_reducible repeat (first | apply Kd.R_alloc | apply Kd.R_drewN | apply Kd.R_drew)); exact Kd.R_mono HO_186003.out (fun _ hk => ⟨trivial, hk⟩)) hg (.inl rfl)); have n2_ := Aside0.mk (blk_grown (g := gb173) (o := .cells #[.int .i64 (wrap64 (a0)), .int .i64 (wrap64 (a1)), .int .u32 a2, .slice A3 l3.length c3] 41 (0, 0)) (by (with_reducible repeat (first | refine blk_drewN ?_ _ | refine blk_drew ?_ | refine blk_alloc ?_ _)); exact BK173.out) hg (Kd.R_ne HO_14.out BK173.out (by decide))); have n3_ := Aside0.mk (blk_grown (g := gb185) (o := .cells #[.int .i64 t178, .int .i64 t179, .int .u32 t180, .slice Ao23 t181.length co23] 41 (0, 0)) (by (with_reducible repeat (first | refine blk_drewN ?_ _ | refine blk_drew ?_ | refine blk_alloc ?_ _)); exact BK185.out) hg (Kd.R_ne HO_14.out BK185.out (by decide))); have n4_ := Aside0.mk ((by rw [hw]; exact below_set (HB.out) GB47.out : Below w.heap.size w w52)); clear HO_14; clear HO_186003; clear BK173; clear BK185; clear HB; have HO_14 := n0_; have HO_186003 := n1_; have BK173 := n2_; have BK185 := n3_; have HB := n4_; clear n0_ n1_ n2_ n3_ n4_; clear hg hw hp_) | ((with_reducible refine gate_callee (f := 24) rfl ?_); refine goesL_ (some 79) rfl rfl Try.func24 (by kernel_rfl) rfl #[.slice (some ⟨go47, 0, none⟩) y189.length co18] rfl (by (try simp only [List.map_toArray, List.map_cons, List.map_nil]); first | done | (rw [show y189.length = t174.length from (Kd.R_reads' HO_14.out).1.symm] <;> rfl) | rfl | (simp only [List.length_drop, List.length_take]; rfl)) ?_; (with_reducible refine (icmp_Parse.calls kj11 _ _ y189 t190 t191 t192 t193 t196 _ ?side1 ?side2 A48.out).mono ?_); (case side1 => repeat (first | exact (Kd.R_reads' HO_14.out).2.2 | (with_reducible refine Kd.C_alloc ?_ _) | (with_reducible refine Kd.C_drewN ?_ _) | (with_reducible refine Kd.C_drew ?_))); (case side2 => rw [show y189.length = t174.length from (Kd.R_reads' HO_14.out).1.symm]; exact (Kd.R_reads' HO_14.out).2.1); rintro e w53 ⟨v194, rfl, ho0, hb⟩; refine ⟨_, rfl, ?_⟩; have n0_ := Aside0.mk (Kd.R_elder' (by (with_reducible repeat (first | apply Kd.R_alloc | apply Kd.R_drewN | apply Kd.R_drew)); exact HO_14.out) (Kd.R_base ho0) hb); have n1_ := Aside0.mk (Kd.R_elder' (by (with_reducible repeat (first | apply Kd.R_alloc | apply Kd.R_drewN | apply Kd.R_drew)); exact HO_186003.out) (Kd.R_base ho0) hb); have n2_ := Aside0.mk (Kd.R_lower (Kd.R_new' (Kd.R_new' ho0 (Kd.R_lt (by (with_reducible repeat (first | apply Kd.R_alloc | apply Kd.R_drewN | apply Kd.R_drew)); exact HO_14.out))) (Kd.R_lt (by (with_reducible repeat (first | apply Kd.R_alloc | apply Kd.R_drewN | apply Kd.R_drew)); exact HO_186003.out))) (below_size (by repeat (first | (with_reducible first | exact HB.out | apply below_alloc | apply pw_below_drewN | apply below_drew1 | refine below_set ?_ GE173.out | refine below_set ?_ GE185.out) | exact HB.out)))); have n3_ := Aside0.mk (blk_below (g := gb173) (o := .cells #[.int .i64 (wrap64 (a0)), .int .i64 (wrap64 (a1)), .int .u32 a2, .slice A3 l3.length c3] 41 (0, 0)) (by (with_reducible repeat (first | refine blk_drewN ?_ _ | refine blk_drew ?_ | refine blk_alloc ?_ _)); exact BK173.out) hb); have n4_ := Aside0.mk (blk_below (g := gb185) (o := .cells #[.int .i64 t178, .int .i64 t179, .int .u32 t180, .slice Ao23 t181.length co23] 41 (0, 0)) (by (with_reducible repeat (first | refine blk_drewN ?_ _ | refine blk_drew ?_ | refine blk_alloc ?_ _)); exact BK185.out) hb); have n5_ := Aside0.mk (below_step (by repeat (first | (with_reducible first | exact HB.out | apply below_alloc | apply pw_below_drewN | apply below_drew1 | refine below_set ?_ GE173.out | refine below_set ?_ GE185.out) | exact HB.out)) hb); clear HO_14; clear HO_186003; clear BK173; clear BK185; clear HB; have HO_14 := n0_; have HO_186003 := n1_; have HO195 := n2_; have BK173 := n3_; have BK185 := n4_; have HB := n5_; clear n0_ n1_ n2_ n3_ n4_ n5_; (try clear hb); (try clear hb2); (try clear hk); (try clear hi); (try clear ho0)) | ((with_reducible refine gate_dst (N := 18) rfl ?_); (try (refine gate_guard (by rfl) ?_; dsimp only)); refine box_event ?hg (N := 18) ?hd (cs := #[.int .i64 0, .int .i64 0, .int .u32 0, .slice none 0 0]) (t := 41) ?hr ?_; (case hd => rfl); (case hg => rfl); (case hr => first | (go_simp; done) | (go_simp; rfl)); intro gb197 hg w54 hbox hb; have n0_ := Aside0.mk (Kd.R_below (by (with_reducible repeat (first | apply Kd.R_alloc | apply Kd.R_drewN | apply Kd.R_drew)); exact HO_14.out) hb); have n1_ := Aside0.mk (Kd.R_below (by (with_reducible repeat (first | apply Kd.R_alloc | apply Kd.R_drewN | apply Kd.R_drew)); exact HO_186003.out) hb); have n2_ := Aside0.mk (Kd.R_below (by (with_reducible repeat (first | apply Kd.R_alloc | apply Kd.R_drewN | apply Kd.R_drew)); exact HO195.out) hb); have n3_ := Aside0.mk (blk_below (g := gb173) (o := .cells #[.int .i64 (wrap64 (a0)), .int .i64 (wrap64 (a1)), .int .u32 a2, .slice A3 l3.length c3] 41 (0, 0)) (by (with_reducible repeat (first | refine blk_drewN ?_ _ | refine blk_drew ?_ | refine blk_alloc ?_ _)); exact BK173.out) hb); have n4_ := Aside0.mk (blk_below (g := gb185) (o := .cells #[.int .i64 t178, .int .i64 t179, .int .u32 t180, .slice Ao23 t181.length co23] 41 (0, 0)) (by (with_reducible repeat (first | refine blk_drewN ?_ _ | refine blk_drew ?_ | refine blk_alloc ?_ _)); exact BK185.out) hb); have n5_ := Aside0.mk (below_step (by repeat (first | (with_reducible first | exact HB.out | apply below_alloc | apply pw_below_drewN | apply below_drew1 | refine below_set ?_ GE173.out | refine below_set ?_ GE185.out) | exact HB.out)) hb); have n6_ := Aside0.mk (hbox); have n7_ := Aside0.mk ((by rw [hg]; exact (below_size (by repeat (first | (with_reducible first | exact HB.out | apply below_alloc | apply pw_below_drewN | apply below_drew1 | refine below_set ?_ GE173.out | refine below_set ?_ GE185.out) | exact HB.out))) : w.heap.size ≤ gb197)); have n8_ := Aside0.mk ((by rw [hg]; exact (below_size (by repeat (first | (with_reducible first | exact HB.out | apply below_alloc | apply pw_below_drewN | apply below_drew1 | refine below_set ?_ GE173.out | refine below_set ?_ GE185.out) | exact HB.out))) : w.heap.size ≤ gb197)); have n9_ := Aside0.mk ((by rw [hg]; exact Nat.ne_of_lt (blk_lt (g := gb173) (o := .cells #[.int .i64 (wrap64 (a0)), .int .i64 (wrap64 (a1)), .int .u32 a2, .slice A3 l3.length c3] 41 (0, 0)) (by (with_reducible repeat (first | refine blk_drewN ?_ _ | refine blk_drew ?_ | refine blk_alloc ?_ _)); exact BK173.out)) : gb173 ≠ gb197)); have n10_ := Aside0.mk ((by rw [hg]; exact Nat.ne_of_gt (blk_lt (g := gb173) (o := .cells #[.int .i64 (wrap64 (a0)), .int .i64 (wrap64 (a1)), .int .u32 a2, .slice A3 l3.length c3] 41 (0, 0)) (by (with_reducible repeat (first | refine blk_drewN ?_ _ | refine blk_drew ?_ | refine blk_alloc ?_ _)); exact BK173.out)) : gb197 ≠ gb173)); have n11_ := Aside0.mk ((by rw [hg]; exact Nat.ne_of_lt (blk_lt (g := gb185) (o := .cells #[.int .i64 t178, .int .i64 t179, .int .u32 t180, .slice Ao23 t181.length co23] 41 (0, 0)) (by (with_reducible repeat (first | refine blk_drewN ?_ _ | refine blk_drew ?_ | refine blk_alloc ?_ _)); exact BK185.out)) : gb185 ≠ gb197)); have n12_ := Aside0.mk ((by rw [hg]; exact Nat.ne_of_gt (blk_lt (g := gb185) (o := .cells #[.int .i64 t178, .int .i64 t179, .int .u32 t180, .slice Ao23 t181.length co23] 41 (0, 0)) (by (with_reducible repeat (first | refine blk_drewN ?_ _ | refine blk_drew ?_ | refine blk_alloc ?_ _)); exact BK185.out)) : gb197 ≠ gb185)); clear HO_14; clear HO_186003; clear HO195; clear BK173; clear BK185; clear HB; have HO_14 := n0_; have HO_186003 := n1_; have HO195 := n2_; have BK173 := n3_; have BK185 := n4_; have HB := n5_; have BK197 := n6_; have GW197 := n7_; have GE197 := n8_; have NB173_197 := n9_; have NB197_173 := n10_; have NB185_197 := n11_; have NB197_185 := n12_; clear n0_ n1_ n2_ n3_ n4_ n5_ n6_ n7_ n8_ n9_ n10_ n11_ n12_; clear hb hbox hg; have hnb55 := NB197_173.out; have hnc55 := NB173_197.out; have hnb56 := NB197_185.out; have hnc56 := NB185_197.out; have hcz57_0 : w54.cell? ⟨gb197, 0, none⟩ = some (.int .i64 0) := (blk_cell BK197.out 0).trans rfl; have hcz57_1 : w54.cell? ⟨gb197, 1, none⟩ = some (.int .i64 0) := (blk_cell BK197.out 1).trans rfl; have hcz57_2 : w54.cell? ⟨gb197, 2, none⟩ = some (.int .u32 0) := (blk_cell BK197.out 2).trans rfl; have hcz57_3 : w54.cell? ⟨gb197, 3, none⟩ = some (.slice none 0 0) := (blk_cell BK197.out 3).trans rfl; have hfz57_0 := blk_frozen BK197.out 0; have hfz57_1 := blk_frozen BK197.out 1; have hfz57_2 := blk_frozen BK197.out 2; have hfz57_3 := blk_frozen BK197.out 3; obtain ⟨Ao58, co58, eo58⟩ := Kd.R_slice HO195.out; subst eo58) | (go_at_call 16; (with_reducible refine (castellanlaw7_known.calls  t198 _ A50.out).mono ?_); rintro e w' ⟨rfl, ⟨nd, rfl⟩⟩))
                      go_ret
                      exact ⟨by first | rfl | (simp [errW_none, errW_some] <;> rfl) | (simp only [← hji44]; first | rfl | (simp [errW_none, errW_some] <;> rfl)) | (simp [*, errW_none, errW_some] <;> rfl), by repeat (first | (with_reducible first | exact HB.out | apply below_alloc | apply pw_below_drewN | apply below_drew1 | refine below_set ?_ GE173.out | refine below_set ?_ GE185.out | refine below_set ?_ GE197.out) | exact HB.out)⟩
                    · rw [if_neg c49] at H
                      have c49b0 : (t196 == 4) = false := beq_eq_false_iff_ne.mpr c49
                      have c49b1 : (t196 != 4) = true := bne_iff_ne.mpr c49
                      exact absurd (H.trans (congrArg some HRT.out)) (by simp)
                  · rw [if_neg c46] at H
                    exact absurd H (by simp)
                · rw [if_neg c45] at H
                  exact absurd H (by simp)

/-- THE ONE PURE STATEMENT of castellanlaw7_IcmpBack: yours. -/
def castellanlaw7_IcmpBack.Pure : Prop := ∀ (a0 : Int) (a1 : Int) (a2 : Int) (l3 : List Int) (a4 : Int) (a5 : Int), (Lit.int .u8 a0).wf = true → (Lit.int .u8 a1).wf = true → (Lit.int .u32 a2).wf = true → l3.length ≤ maxLen → l3.length * 1 ≤ 140737488351232 → (∀ x ∈ l3, (Lit.int .u8 x).wf = true) → (Lit.int .i64 a4).wf = true → (Lit.int .u8 a5).wf = true → ∃ k, castellanlaw7_IcmpBack.f k a0 a1 a2 l3 a4 a5 = some true
theorem castellanlaw7_IcmpBack.walk (P : castellanlaw7_IcmpBack.Pure) (a0 : Int) (a1 : Int) (a2 : Int) (a3 : Option Addr) (len3 cap3 : Nat) (z3 : List Int) (a4 : Int) (a5 : Int) (w : World) (w0 : (Lit.int .u8 a0).wf = true) (w1 : (Lit.int .u8 a1).wf = true) (w2 : (Lit.int .u32 a2).wf = true) (w3 : (a3 = none ∧ len3 = 0 ∧ cap3 = 0 ∧ z3 = []) ∨ ∃ x, a3 = some x ∧ len3 ≤ cap3 ∧ cap3 ≤ maxLen ∧ z3.length = cap3 ∧ (∀ i, i < z3.length → w.cell? (x.add i) = some (.int .u8 (z3.getD i 0))) ∧ ∀ n ∈ z3, (Lit.int .u8 n).wf = true) (y3 : len3 * 1 ≤ 140737488351232) (w4 : (Lit.int .i64 a4).wf = true) (w5 : (Lit.int .u8 a5).wf = true) :
    Calls Try.prog 10 #[.int .u8 a0, .int .u8 a1, .int .u32 a2, .slice a3 len3 cap3, .int .i64 a4, .int .u8 a5] w fun e w' => e = .returned (.bool true) ∧ Below w.heap.size w w' := by
  obtain ⟨l3, rfl, hr3, hm3, hw3, hc3⟩ := ReadsInt.ofRowC w3
  obtain ⟨k, h⟩ := P a0 a1 a2 l3 a4 a5 w0 w1 w2 hm3 y3 hw3 w4 w5
  refine (castellanlaw7_IcmpBack.calls k a0 a1 a2 _ _ l3 a4 a5 true w (Kd.C_of_reads (d := (0 : Int)) (h1 := fun _ => rfl) hr3) hc3 rfl h).mono ?_
  rintro e w' ⟨rfl, hd⟩
  exact ⟨rfl, hd⟩

end Go.Proofs.Ytbenimfjhcbplaa.QIcmpBack
