-- written by myprint.py, a program of this session's over the kit's printer
import Derived.Test.YtkdibloahkhgoaaQReplyPacketsx0
namespace Go.Proofs.Ytkdibloahkhgoaa.QReplyPackets
open Go.RowKit Go.Proofs.YtkdibloahkhgoaaW.PrintWords Go.Proofs.YtkdibloahkhgoaaW.PrintLast Go.Proofs.YtkdibloahkhgoaaW.PrintMore
attribute [local go_sem] max2_int min2_int max_two min_two max_three min_three max_four min_four   -- for this text's walks alone
set_option linter.unusedVariables false
set_option linter.unusedSimpArgs false

/-! ### slices_Concat_byte_byte: function 91 -/
def slices_Concat_byte_byte.l0 : Nat → List Int → List (List Int) → Int → Int → Option (List Int)
 | 0, _, _, _, _ => none
 | k + 1, x6, x25, x26, x27 => if x27 < x26 then (if 0 ≤ x27 then (if x27 < (x25.length : Int) then (if x6.length + (rd_L1 x25 x27).length < 140737488355328 then (slices_Concat_byte_byte.l0 k (x6 ++ (rd_L1 x25 x27)) x25 x26 (wrap64 (x27 + 1))) else (none)) else (none)) else (none)) else (some x6)
def slices_Concat_byte_byte.f (k : Nat) (l0 : List (List Int)) : Option (List Int) := slices_Concat_byte_byte.l0 k ([] : List Int) l0 (l0.length : Int) 0
theorem slices_Concat_byte_byte.mono_l : ∀ k, (∀ y0 y1 y2 y3, LeO (slices_Concat_byte_byte.l0 k y0 y1 y2 y3) (slices_Concat_byte_byte.l0 (k + 1) y0 y1 y2 y3))
 | 0 => fun _ _ _ _ r h => by simp [slices_Concat_byte_byte.l0] at h
 | k + 1 => by
  have ih0 := slices_Concat_byte_byte.mono_l k
  ·intro y0 y1 y2 y3
   unfold slices_Concat_byte_byte.l0
   repeat' first
   | (with_reducible exact ih0 _ _ _ _)
   | (with_reducible exact LeO.refl _)
   | (with_reducible exact LeO.none _)
   | (with_reducible refine LeO.ite ?_ ?_)
   | (with_reducible refine LeO.bind ?_ (fun _ => ?_))
   | exact ih0 _ _ _ _
   | exact LeO.none _
   | refine LeO.ite ?_ ?_
   | refine LeO.bind ?_ (fun _ => ?_)
theorem slices_Concat_byte_byte.mono : ∀ a0 k, LeO (slices_Concat_byte_byte.f k a0) (slices_Concat_byte_byte.f (k + 1) a0) := by
 intro a0 k
 have ih0 := slices_Concat_byte_byte.mono_l k
 unfold slices_Concat_byte_byte.f
 repeat' first
   | (with_reducible exact ih0 _ _ _ _)
   | (with_reducible exact LeO.refl _)
   | (with_reducible exact LeO.none _)
   | (with_reducible refine LeO.ite ?_ ?_)
   | (with_reducible refine LeO.bind ?_ (fun _ => ?_))
   | exact ih0 _ _ _ _
   | exact LeO.none _
   | refine LeO.ite ?_ ?_
   | refine LeO.bind ?_ (fun _ => ?_)
set_option maxHeartbeats 8000000 in
set_option maxRecDepth 100000 in
theorem slices_Grow_byte_byte.calls (n : Int) (w : World) (h0 : 0 ≤ n) (h1 : n < 140737488355328) :
  Calls Try.prog 96 #[.slice none 0 0, .int .i64 n] w fun e w' => ∃ v0_ : Value, e = .returned (v0_) ∧ Kd.R (Kd.int .u8) 5 w' w.heap.size (fun _ => True) v0_ ([] : List Int) ∧ Below w.heap.size w w' := by
 have HB := Aside0.mk (Below.refl w.heap.size w)
 have HR := Aside0.mk (Kd.R_nil (Kd.int .u8) 5 w w.heap.size (fun _ => True))
 have c1 : decide (n < 0) = false := decide_eq_false (by omega)
 have c2 : wrap64 (n - wrap64 (0 - 0)) = n := by rw [show wrap64 (0 - 0) = 0 from by unfold wrap64; omega, Int.sub_zero]; unfold wrap64; omega
 by_cases c3 : 0 < n
 ·have c3b : decide (0 < n) = true := decide_eq_true c3
  go_enter Try.func96, Try.ntmps96
  go_wp2_with (first | ((first | (with_reducible refine gate_builtin (b := .append) (xs := #[.tmp 20, .tmp 21]) rfl ?_) | skip); at_builtin; refine Kd.R_append_zeros (Kd.int .u8) (w0 := w) w.heap.size rfl (.tmp 20) (.tmp 21) 24 3 5 (.int .u8 0) 1 rfl Try.underlying24 Try.underlying3 info5 rfl (by decide) (by omega) (.slice none 0 0) ([] : List Int) 0 n (fun _ => True) rfl rfl rfl ?aF ?aO h0 ?aB ?aS ?aL ?_; (case aF => exact (fun _ _ => trivial)); (case aO => exact Kd.R_nil _ _ _ _ _); (case aB => exact HB.out); (case aS => exact Nat.le_refl _); (case aL => (simp only [List.length_nil]; omega)); intro v1 w1 ho hb hg hat; obtain ⟨A1, k1, rfl⟩ := Kd.R_slice ho; clear hg hat; have HO := Aside0.mk ho; have HB1 := Aside0.mk hb; clear ho hb))
  go_ret
  exact ⟨_, rfl, Kd.R_take HO.out (Nat.zero_le _), HB1.out⟩
 ·have c3b : decide (0 < n) = false := decide_eq_false c3
  go_enter Try.func96, Try.ntmps96
  go_wp2
  go_ret
  exact ⟨_, rfl, HR.out, HB.out⟩
set_option maxHeartbeats 8000000 in
set_option maxRecDepth 100000 in
theorem slices_Concat_byte_byte.calls (k : Nat) (A0 : Option Addr) (c0 : Nat) (l0 : List (List Int)) (r : List Int) (w : World) (hr0 : Kd.C (Kd.slice 5 (Kd.int .u8)) w A0 l0.length l0) (hc0 : l0.length ≤ c0) (h : slices_Concat_byte_byte.f k l0 = some r) :
  Calls Try.prog 91 #[.slice A0 l0.length c0] w fun e w' => ∃ v0_ : Value, e = .returned (v0_) ∧ Kd.R (Kd.int .u8) 5 w' w.heap.size (fun _ => True) v0_ r ∧ Below w.heap.size w w' := by
 have HR0 := Aside0.mk hr0
 have HC0 := Aside0.mk hc0
 clear hr0 hc0
 have HB := Aside0.mk (Below.refl w.heap.size w)
 have H : (slices_Concat_byte_byte.l0 k ([] : List Int) l0 (l0.length : Int) 0) = some r := h
 clear h
 have H' := Aside0.mk H
 clear H
 go_enter Try.func91, Try.ntmps91
 have H0 := H'
 go_wp2
 go_loopg [3, 11] k (fun kq v3 v11 w' => ∃ (z6 : List Int) (z11 : Int), v3 = .int .i64 (z6.length : Int) ∧ v11 = .int .i64 z11 ∧ z6.length < 140737488355328 ∧ Aside0 (slices_Concat_byte_byte.l0 kq z6 l0 (l0.length : Int) z11 = some r) ∧ Aside0 (kq ≤ k) ∧ w = w')
 case atStart => exact ⟨([] : List Int), 0, rfl, rfl, by decide, H', ⟨Nat.le_refl _⟩, rfl⟩
 case round =>
  clear H'
  obtain ⟨z6, z11, rfl, rfl, LMz, HA, HK1, rfl⟩ := hrel
  cases gk with
  | zero => exact absurd HA.out (by simp [slices_Concat_byte_byte.l0])
  | succ k1 =>
   have H := HA.out
   clear HA
   simp only [slices_Concat_byte_byte.l0] at H
   by_cases c2 : z11 < (l0.length : Int)
   ·rw [if_pos c2] at H
    by_cases c3 : 0 ≤ z11
    ·rw [if_pos c3, if_pos c2] at H
     by_cases c5 : z6.length + (rd_L1 l0 z11).length < 140737488355328
     ·rw [if_pos c5] at H
      have H' := Aside0.mk H
      clear H
      obtain ⟨adz, Az, cz, ez, hxz, hlz, hiz⟩ := at_L1 HR0.out z11 c3 c2
      cases ez
      have c2b0 : decide (z11 < (l0.length : Int)) = true := decide_eq_true c2
      obtain ⟨y_, hy_⟩ : ∃ y_ : List Int, y_ = z6 ++ rd_L1 l0 z11 := ⟨_, rfl⟩
      have hly : y_.length = z6.length + (rd_L1 l0 z11).length := by rw [hy_, List.length_append]
      have e1 : wrap64 ((z6.length : Int) + ((rd_L1 l0 z11).length : Int)) = (y_.length : Int) := by rw [hly, Int.natCast_add]; unfold wrap64; omega
      have e2 : decide ((y_.length : Int) < 0) = false := decide_eq_false (by omega)
      have HY := Aside0.mk hy_
      have HLY := Aside0.mk hly
      clear hy_ hly
      replace c3 := eq_true c3
      replace c2 := eq_true c2
      go_wp2
      go_roundg k1
      case measure => have := HK1.out; omega
      case rel => exact ⟨y_, wrap64 (z11 + 1), (by have h_ := HLY.out; first | rfl | (simp [h_]; done) | (simp [*]; done)), (by first | rfl | (simp; done) | (simp [*]; done)), by have := HLY.out; omega, (by rw [HY.out]; exact H'), ⟨by have := HK1.out; omega⟩, rfl⟩
     ·rw [if_neg c5] at H
      exact absurd H (by simp)
    ·rw [if_neg c3] at H
     exact absurd H (by simp)
   ·rw [if_neg c2] at H
    have c2b0 : decide (z11 < (l0.length : Int)) = false := decide_eq_false c2
    clear c2
    have hz6 := Option.some.inj H
    rw [hz6] at LMz ⊢
    clear hz6 H
    have H' := H0
    go_wp2_with (first | ((with_reducible refine gate_callee (f := 96) rfl ?_); refine goesL_ (some 24) rfl rfl Try.func96 (by kernel_rfl) rfl #[.slice none 0 0, .int .i64 (r.length : Int)] rfl (by (try simp only [List.map_toArray, List.map_cons, List.map_nil]); first | done | rfl) ?_; (with_reducible refine (slices_Grow_byte_byte.calls (r.length : Int) _ (Int.natCast_nonneg _) ?side1).mono ?_); (case side1 => omega); rintro e w1 ⟨vg, rfl, hog, hbg⟩; refine ⟨_, rfl, ?_⟩; have HOg := Aside0.mk hog; clear HB; have HB := Aside0.mk hbg; clear hog hbg))
    go_loopg [6, 27] k (fun kq v6 v27 w' => ∃ (x6_1 : List Int) (x27_1 : Int), v27 = .int .i64 x27_1 ∧ Aside0 (slices_Concat_byte_byte.l0 kq x6_1 l0 (l0.length : Int) x27_1 = some r) ∧ Aside0 (kq ≤ k) ∧ Aside0 (Kd.R (Kd.int .u8) 5 w' w.heap.size (fun _ => True) v6 x6_1) ∧ Aside0 (Below w.heap.size w w'))
    case atStart => exact ⟨(([] : List Int)), (0), (by first | rfl | (simp; done) | (simp [*]; done)), H', ⟨Nat.le_refl _⟩, ⟨HOg.out⟩, ⟨by repeat (first | (with_reducible first | exact HB.out | apply below_alloc | apply pw_below_drewN | apply below_drew1) | exact HB.out)⟩⟩
    case round =>
     clear H'
     obtain ⟨x6_1, x27_1, rfl, HA, HK1, HO_6, HB⟩ := hrel
     cases gk with
     | zero => exact absurd HA.out (by simp [slices_Concat_byte_byte.l0])
     | succ k1 =>
      have H := HA.out
      clear HA
      simp only [slices_Concat_byte_byte.l0] at H
      by_cases c2 : x27_1 < (l0.length : Int)
      ·rw [if_pos c2] at H
       have c2b0 : decide (x27_1 < (l0.length : Int)) = true := decide_eq_true c2
       clear c2
       by_cases c3 : 0 ≤ x27_1
       ·rw [if_pos c3] at H
        have c3b0 : decide (0 ≤ x27_1) = true := decide_eq_true c3
        clear c3
        by_cases c4 : x27_1 < (l0.length : Int)
        ·rw [if_pos c4] at H
         have c4b0 : decide (x27_1 < (l0.length : Int)) = true := decide_eq_true c4
         clear c4
         by_cases c5 : x6_1.length + (rd_L1 l0 x27_1).length < 140737488355328
         ·rw [if_pos c5] at H
          have LMc5 := Aside0.mk c5
          clear c5
          obtain ⟨y221, hy221⟩ : ∃ y_ : List Int, y_ = (x6_1 ++ (rd_L1 l0 x27_1)) := ⟨_, rfl⟩
          replace H : (slices_Concat_byte_byte.l0 k1 y221 l0 (l0.length : Int) (wrap64 (x27_1 + 1))) = some r := by first | (rw [hy221]; with_reducible exact H) | (have H2_ := (Option.bind_some _ _).symm.trans H; rw [hy221]; with_reducible exact H2_) | (have H2_ := (Option.bind_some _ _).symm.trans H; with_reducible exact H2_) | with_reducible exact H | (rw [hy221]; exact H) | exact H
          have Ny221 := Aside0.mk hy221
          clear hy221
          have H' := Aside0.mk H
          clear H
          have p220 : 0 ≤ (x27_1 : Int) := of_decide_eq_true (by first | (with_reducible assumption) | assumption)
          have q220 : x27_1 < (l0.length : Int) := of_decide_eq_true (by first | (with_reducible assumption) | assumption)
          obtain ⟨ad220, A220_0, c220_0, e220, hx220_0, hl220_0, hi220_0⟩ := at_L1 HR0.out x27_1 p220 q220
          cases e220
          replace hx220_0 := (HB.out.cell (World.block_lt_of_cell? w _ hx220_0)).trans hx220_0
          have HR220_0 := Aside0.mk hi220_0
          have HC220_0 := Aside0.mk hl220_0
          clear hi220_0 hl220_0
          replace p220 := eq_true p220
          replace q220 := eq_true q220
          go_wp2_with (first | ((with_reducible refine gate_builtin (b := .append) (xs := #[.tmp 31, .tmp 32]) rfl ?_); at_builtin; refine Kd.R_append_rows (Kd.int .u8) (w0 := w) w.heap.size rfl (.tmp 31) (.tmp 32) 24 5 (.int .u8 0) 1 rfl Try.underlying24 info5 rfl (by decide) (by omega) u6 x6_1 (rd_L1 l0 x27_1) _ _ _ (fun _ => True) (fun _ => False) rfl rfl ?aO ?aR (fun _ _ h => h) (fun _ h => h.elim) ?aF ?aB ?aS ?aL ?_; (case aR => repeat (first | exact (Kd.C_below HR220_0.out HB.out) | (with_reducible refine Kd.C_alloc ?_ _) | (with_reducible refine Kd.C_drewN ?_ _) | (with_reducible refine Kd.C_drew ?_))); (case aB => exact (by repeat (first | (with_reducible first | exact HB.out | apply below_alloc | apply pw_below_drewN | apply below_drew1) | exact HB.out))); (case aF => exact (fun _ _ => trivial)); (case aO => exact (by (with_reducible repeat (first | apply Kd.R_alloc | apply Kd.R_drewN | apply Kd.R_drew)); exact HO_6.out)); (case aS => exact (below_size (by repeat (first | (with_reducible first | exact HB.out | apply below_alloc | apply pw_below_drewN | apply below_drew1) | exact HB.out)))); (case aL => have := LMc5.out; omega); intro v222 w6 ho hb hg hat; rw [← Ny221.out] at ho; have n0_ := Aside0.mk (hb); have n1_ := Aside0.mk (ho); clear HB; clear HO_6; have HB := n0_; have HO223 := n1_; clear n0_ n1_; clear ho hb hg hat))
          go_roundg k1
          case measure => have := HK1.out; omega
          case rel => exact ⟨(y221), (wrap64 (x27_1 + 1)), (by first | rfl | (simp; done) | (simp [*]; done)), H', ⟨by have := HK1.out; omega⟩, ⟨by (with_reducible repeat (first | apply Kd.R_alloc | apply Kd.R_drewN | apply Kd.R_drew)); exact HO223.out⟩, ⟨by repeat (first | (with_reducible first | exact HB.out | apply below_alloc | apply pw_below_drewN | apply below_drew1) | exact HB.out)⟩⟩
         ·rw [if_neg c5] at H
          exact absurd H (by simp)
        ·rw [if_neg c4] at H
         exact absurd H (by simp)
       ·rw [if_neg c3] at H
        exact absurd H (by simp)
      ·rw [if_neg c2] at H
       have c2b0 : decide (x27_1 < (l0.length : Int)) = false := decide_eq_false c2
       clear c2
       obtain rfl := Option.some.inj H
       go_wp2
       go_ret
       exact ⟨_, by first | rfl | (simp [errW_none, errW_some] <;> rfl) | (simp [*, errW_none, errW_some] <;> rfl), by (with_reducible repeat (first | apply Kd.R_alloc | apply Kd.R_drewN | apply Kd.R_drew)); exact HO_6.out, by repeat (first | (with_reducible first | exact HB.out | apply below_alloc | apply pw_below_drewN | apply below_drew1) | exact HB.out)⟩


/-! ### word_Join: function 71 -/
def word_Join.f (k : Nat) (l0 : List (List Int)) : Option (List Int) := (slices_Concat_byte_byte.f k l0).bind fun t224 => (some t224)
theorem word_Join.mono : ∀ a0 k, LeO (word_Join.f k a0) (word_Join.f (k + 1) a0) := by
 intro a0 k
 unfold word_Join.f
 repeat' first
   | (with_reducible exact slices_Concat_byte_byte.mono _ _)
   | (with_reducible exact LeO.refl _)
   | (with_reducible exact LeO.none _)
   | (with_reducible refine LeO.ite ?_ ?_)
   | (with_reducible refine LeO.bind ?_ (fun _ => ?_))
   | exact slices_Concat_byte_byte.mono _ _
   | exact LeO.none _
   | refine LeO.ite ?_ ?_
   | refine LeO.bind ?_ (fun _ => ?_)
set_option maxHeartbeats 8000000 in
set_option maxRecDepth 100000 in
theorem word_Join.calls (k : Nat) (A0 : Option Addr) (c0 : Nat) (l0 : List (List Int)) (r : List Int) (w : World) (hr0 : Kd.C (Kd.slice 5 (Kd.int .u8)) w A0 l0.length l0) (hc0 : l0.length ≤ c0) (h : word_Join.f k l0 = some r) :
  Calls Try.prog 71 #[.slice A0 l0.length c0] w fun e w' => ∃ v0_ : Value, e = .returned (v0_) ∧ Kd.R (Kd.int .u8) 5 w' w.heap.size (fun _ => True) v0_ r ∧ Below w.heap.size w w' := by
 have HR0 := Aside0.mk hr0
 have HC0 := Aside0.mk hc0
 clear hr0 hc0
 have HB := Aside0.mk (Below.refl w.heap.size w)
 have H : ((slices_Concat_byte_byte.f k l0).bind fun t224 => (some t224)) = some r := h
 clear h
 replace H := Option.bind_eq_some_iff.mp H
 obtain ⟨t224, A20, H⟩ := H
 replace H : (some t224) = some r := H
 have A2 := Aside0.mk A20
 clear A20
 obtain rfl := Option.some.inj H
 go_enter Try.func71, Try.ntmps71
 go_wp2_with (first | ((with_reducible refine gate_callee (f := 91) rfl ?_); refine goesL_ (some 4) rfl rfl Try.func91 (by kernel_rfl) rfl #[.slice A0 l0.length c0] rfl (by (try simp only [List.map_toArray, List.map_cons, List.map_nil]); first | done | rfl | (simp only [List.length_drop, List.length_take]; rfl)) ?_; (with_reducible refine (slices_Concat_byte_byte.calls k _ _ l0 t224 _ ?side1 ?side2 A2.out).mono ?_); (case side1 => repeat (first | exact HR0.out | (with_reducible refine Kd.C_alloc ?_ _) | (with_reducible refine Kd.C_drewN ?_ _) | (with_reducible refine Kd.C_drew ?_))); (case side2 => exact HC0.out); rintro e w3 ⟨v225, rfl, ho0, hb⟩; refine ⟨_, rfl, ?_⟩; have n0_ := Aside0.mk (Kd.R_lower ho0 (below_size (by repeat (first | (with_reducible first | exact HB.out | apply below_alloc | apply pw_below_drewN | apply below_drew1) | exact HB.out)))); have n1_ := Aside0.mk (below_step (by repeat (first | (with_reducible first | exact HB.out | apply below_alloc | apply pw_below_drewN | apply below_drew1) | exact HB.out)) hb); clear HB; have HO226 := n0_; have HB := n1_; clear n0_ n1_; (try clear hb); (try clear hb2); (try clear hk); (try clear hi); (try clear ho0)))
 go_ret
 exact ⟨_, by first | rfl | (simp [errW_none, errW_some] <;> rfl) | (simp [*, errW_none, errW_some] <;> rfl), by (with_reducible repeat (first | apply Kd.R_alloc | apply Kd.R_drewN | apply Kd.R_drew)); exact HO226.out, by repeat (first | (with_reducible first | exact HB.out | apply below_alloc | apply pw_below_drewN | apply below_drew1) | exact HB.out)⟩

/-! ### word_Put32: function 72 -/
def word_Put32.f (a0 : Int) : Option (List Int) := some (([(a0 / 16777216) % 256, (a0 / 65536) % 256, (a0 / 256) % 256, (a0) % 256] : List Int))
set_option maxHeartbeats 8000000 in
set_option maxRecDepth 100000 in
theorem word_Put32.calls (a0 : Int) (r : List Int) (w : World) (h : word_Put32.f a0 = some r) :
  Calls Try.prog 72 #[.int .u32 a0] w fun e w' => ∃ v0_ : Value, e = .returned (v0_) ∧ Kd.R (Kd.int .u8) 5 w' w.heap.size (fun _ => True) v0_ r ∧ Below w.heap.size w w' := by
 have HB := Aside0.mk (Below.refl w.heap.size w)
 have H : (some (([(a0 / 16777216) % 256, (a0 / 65536) % 256, (a0 / 256) % 256, (a0) % 256] : List Int))) = some r := h
 clear h
 obtain ⟨y227, hy227⟩ : ∃ y_ : List Int, y_ = (([(a0 / 16777216) % 256, (a0 / 65536) % 256, (a0 / 256) % 256, (a0) % 256] : List Int)) := ⟨_, rfl⟩
 replace H : (some y227) = some r := by first | (rw [hy227]; with_reducible exact H) | (have H2_ := (Option.bind_some _ _).symm.trans H; rw [hy227]; with_reducible exact H2_) | (have H2_ := (Option.bind_some _ _).symm.trans H; with_reducible exact H2_) | with_reducible exact H | (rw [hy227]; exact H) | exact H
 have Ny227 := Aside0.mk hy227
 clear hy227
 obtain rfl := Option.some.inj H
 go_enter Try.func72, Try.ntmps72
 go_wp2_with (first | ((with_reducible refine gate_dst (N := 14) rfl ?_); refine Kd.R_lit (Kd.int .u8) _ 5 ?hg (N := 14) ?hd (xs := ([(a0 / 16777216) % 256, (a0 / 65536) % 256, (a0 / 256) % 256, (a0) % 256] : List Int)) (inner := [.int .u8 ((a0 / 16777216) % 256), .int .u8 ((a0 / 65536) % 256), .int .u8 ((a0 / 256) % 256), .int .u8 ((a0) % 256)]) (ok := fun _ => True) (okp := fun _ => True) ?hr ?hp (fun _ hk => hk) trivial (Below.refl _ _) (Nat.le_refl _) (by simp) ?_; (case hd => rfl); (case hg => rfl); (case hr => first | (go_simp; done) | (go_simp; rfl)); (case hp => exact (Reps.one (show Kd.M (Kd.int .u8) _ _ _ ((a0 / 16777216) % 256) [.int .u8 ((a0 / 16777216) % 256)] from rfl) (Reps.one (show Kd.M (Kd.int .u8) _ _ _ ((a0 / 65536) % 256) [.int .u8 ((a0 / 65536) % 256)] from rfl) (Reps.one (show Kd.M (Kd.int .u8) _ _ _ ((a0 / 256) % 256) [.int .u8 ((a0 / 256) % 256)] from rfl) (Reps.one (show Kd.M (Kd.int .u8) _ _ _ ((a0) % 256) [.int .u8 ((a0) % 256)] from rfl) (Reps.none _ _)))))); intro v228 w2 ho3 hb hg_ hnew_; clear hg_ hnew_; (first | rw [← Ny227.out] at ho3 | (simp only [Int.reduceToNat] at ho3; rw [← Ny227.out] at ho3)); have n0_ := Aside0.mk (Kd.R_lower ho3 (below_size (by repeat (first | (with_reducible first | exact HB.out | apply below_alloc | apply pw_below_drewN | apply below_drew1) | exact HB.out)))); have n1_ := Aside0.mk (below_step (by repeat (first | (with_reducible first | exact HB.out | apply below_alloc | apply pw_below_drewN | apply below_drew1) | exact HB.out)) hb); clear HB; have HO229 := n0_; have HB := n1_; clear n0_ n1_; clear hb ho3))
 go_ret
 exact ⟨_, by first | rfl | (simp [errW_none, errW_some] <;> rfl) | (simp [*, errW_none, errW_some] <;> rfl), by (with_reducible repeat (first | apply Kd.R_alloc | apply Kd.R_drewN | apply Kd.R_drew)); exact HO229.out, by repeat (first | (with_reducible first | exact HB.out | apply below_alloc | apply pw_below_drewN | apply below_drew1) | exact HB.out)⟩

/-! ### word_Put16: function 73 -/
def word_Put16.f (a0 : Int) : Option (List Int) := some (([(a0 / 256) % 256, (a0) % 256] : List Int))
set_option maxHeartbeats 8000000 in
set_option maxRecDepth 100000 in
theorem word_Put16.calls (a0 : Int) (r : List Int) (w : World) (h : word_Put16.f a0 = some r) :
  Calls Try.prog 73 #[.int .i64 a0] w fun e w' => ∃ v0_ : Value, e = .returned (v0_) ∧ Kd.R (Kd.int .u8) 5 w' w.heap.size (fun _ => True) v0_ r ∧ Below w.heap.size w w' := by
 have HB := Aside0.mk (Below.refl w.heap.size w)
 have H : (some (([(a0 / 256) % 256, (a0) % 256] : List Int))) = some r := h
 clear h
 obtain ⟨y230, hy230⟩ : ∃ y_ : List Int, y_ = (([(a0 / 256) % 256, (a0) % 256] : List Int)) := ⟨_, rfl⟩
 replace H : (some y230) = some r := by first | (rw [hy230]; with_reducible exact H) | (have H2_ := (Option.bind_some _ _).symm.trans H; rw [hy230]; with_reducible exact H2_) | (have H2_ := (Option.bind_some _ _).symm.trans H; with_reducible exact H2_) | with_reducible exact H | (rw [hy230]; exact H) | exact H
 have Ny230 := Aside0.mk hy230
 clear hy230
 obtain rfl := Option.some.inj H
 go_enter Try.func73, Try.ntmps73
 go_wp2_with (first | ((with_reducible refine gate_dst (N := 8) rfl ?_); refine Kd.R_lit (Kd.int .u8) _ 5 ?hg (N := 8) ?hd (xs := ([(a0 / 256) % 256, (a0) % 256] : List Int)) (inner := [.int .u8 ((a0 / 256) % 256), .int .u8 ((a0) % 256)]) (ok := fun _ => True) (okp := fun _ => True) ?hr ?hp (fun _ hk => hk) trivial (Below.refl _ _) (Nat.le_refl _) (by simp) ?_; (case hd => rfl); (case hg => rfl); (case hr => first | (go_simp; done) | (go_simp; rfl)); (case hp => exact (Reps.one (show Kd.M (Kd.int .u8) _ _ _ ((a0 / 256) % 256) [.int .u8 ((a0 / 256) % 256)] from rfl) (Reps.one (show Kd.M (Kd.int .u8) _ _ _ ((a0) % 256) [.int .u8 ((a0) % 256)] from rfl) (Reps.none _ _)))); intro v231 w2 ho3 hb hg_ hnew_; clear hg_ hnew_; (first | rw [← Ny230.out] at ho3 | (simp only [Int.reduceToNat] at ho3; rw [← Ny230.out] at ho3)); have n0_ := Aside0.mk (Kd.R_lower ho3 (below_size (by repeat (first | (with_reducible first | exact HB.out | apply below_alloc | apply pw_below_drewN | apply below_drew1) | exact HB.out)))); have n1_ := Aside0.mk (below_step (by repeat (first | (with_reducible first | exact HB.out | apply below_alloc | apply pw_below_drewN | apply below_drew1) | exact HB.out)) hb); clear HB; have HO232 := n0_; have HB := n1_; clear n0_ n1_; clear hb ho3))
 go_ret
 exact ⟨_, by first | rfl | (simp [errW_none, errW_some] <;> rfl) | (simp [*, errW_none, errW_some] <;> rfl), by (with_reducible repeat (first | apply Kd.R_alloc | apply Kd.R_drewN | apply Kd.R_drew)); exact HO232.out, by repeat (first | (with_reducible first | exact HB.out | apply below_alloc | apply pw_below_drewN | apply below_drew1) | exact HB.out)⟩

end Go.Proofs.Ytkdibloahkhgoaa.QReplyPackets
