-- written by myprint.py, a program of this session's over the kit's printer
import Derived.Test.YtkdibloahkhgoaaQPackPortsx0
import Derived.Test.YtkdibloahkhgoaaQPackPortsx6
import Derived.Test.YtkdibloahkhgoaaQPackPortsx7
namespace Go.Proofs.Ytkdibloahkhgoaa.QPackPorts
open Go.RowKit Go.Proofs.YtkdibloahkhgoaaW.PrintWords Go.Proofs.YtkdibloahkhgoaaW.PrintLast Go.Proofs.YtkdibloahkhgoaaW.PrintMore
attribute [local go_sem] max2_int min2_int max_two min_two max_three min_three max_four min_four   -- for this text's walks alone
set_option linter.unusedVariables false
set_option linter.unusedSimpArgs false

/-- A state of type 29 at block g of W; what its slices lead to came in by w0. -/
def IsS29 (w0 W : World) (g : Nat) (f0 : Int) (f1 : Int) (f2 : Bool) (f3 : Bool) (f4 : Int) (f5 : Int) (f6 : Int) (f7 : Int) (f8 : Int) (f9 : List Int) (f10 : List Int) (f11 : Int) (f12 : Int) (f13 : Int) (f14 : Int) (f15 : Int) (f16 : Int) (f17 : Option Addr) : Prop := ∃ A9 c9, ∃ A10 c10, W.heap[g]? = some (.cells #[.int .i64 f0, .int .i64 f1, .bool f2, .bool f3, .int .i64 f4, .int .i64 f5, .int .i64 f6, .int .u32 f7, .int .u32 f8, .slice A9 f9.length c9, .slice A10 f10.length c10, .int .i64 f11, .int .i64 f12, .int .i64 f13, .int .i64 f14, .int .i64 f15, .int .i64 f16, .pointer f17] 29 (0, 0)) ∧ w0.heap.size ≤ g ∧ Kd.C (Kd.int .u8) w0 A9 f9.length f9 ∧ Kd.C (Kd.int .u8) w0 A10 f10.length f10
theorem IsS29.grown {w0 W : World} {g : Nat} {f0 : Int} {f1 : Int} {f2 : Bool} {f3 : Bool} {f4 : Int} {f5 : Int} {f6 : Int} {f7 : Int} {f8 : Int} {f9 : List Int} {f10 : List Int} {f11 : Int} {f12 : Int} {f13 : Int} {f14 : Int} {f15 : Int} {f16 : Int} {f17 : Option Addr} {W1 : World} {row : Option Nat} (h : IsS29 w0 W g f0 f1 f2 f3 f4 f5 f6 f7 f8 f9 f10 f11 f12 f13 f14 f15 f16 f17) (hw : W.grownBy W1 row) (hne : some g ≠ row) : IsS29 w0 W1 g f0 f1 f2 f3 f4 f5 f6 f7 f8 f9 f10 f11 f12 f13 f14 f15 f16 f17 := by
  obtain ⟨A9, c9, A10, c10, hb, hg, hr9, hr10⟩ := h
  exact ⟨A9, c9, A10, c10, blk_grown hb hw hne, hg, hr9, hr10⟩
theorem IsS29.own_neN {w0 W : World} {g : Nat} {f0 : Int} {f1 : Int} {f2 : Bool} {f3 : Bool} {f4 : Int} {f5 : Int} {f6 : Int} {f7 : Int} {f8 : Int} {f9 : List Int} {f10 : List Int} {f11 : Int} {f12 : Int} {f13 : Int} {f14 : Int} {f15 : Int} {f16 : Int} {f17 : Option Addr} {α : Type} {d : Kd α} {e : Nat} {base : Nat} {ok : Nat → Prop} {v : Value} {xs : List α} (h : IsS29 w0 W g f0 f1 f2 f3 f4 f5 f6 f7 f8 f9 f10 f11 f12 f13 f14 f15 f16 f17) (ho : Kd.N d e W base ok v xs) (ht : e ≠ 29) : some g ≠ v.ownBlock := by
  obtain ⟨A9, c9, A10, c10, hb, hg, hr9, hr10⟩ := h
  exact Kd.N_ne ho hb ht
theorem IsS29.fresh {w0 W : World} {g : Nat} {f0 : Int} {f1 : Int} {f2 : Bool} {f3 : Bool} {f4 : Int} {f5 : Int} {f6 : Int} {f7 : Int} {f8 : Int} {f9 : List Int} {f10 : List Int} {f11 : Int} {f12 : Int} {f13 : Int} {f14 : Int} {f15 : Int} {f16 : Int} {f17 : Option Addr} (h : IsS29 w0 W g f0 f1 f2 f3 f4 f5 f6 f7 f8 f9 f10 f11 f12 f13 f14 f15 f16 f17) : ∀ k, W.heap.size ≤ k → k ≠ g := by
  obtain ⟨A9, c9, A10, c10, hb, hg, hr9, hr10⟩ := h
  exact Kd.freshB hb
theorem IsS29.kept {w0 W : World} {g : Nat} {f0 : Int} {f1 : Int} {f2 : Bool} {f3 : Bool} {f4 : Int} {f5 : Int} {f6 : Int} {f7 : Int} {f8 : Int} {f9 : List Int} {f10 : List Int} {f11 : Int} {f12 : Int} {f13 : Int} {f14 : Int} {f15 : Int} {f16 : Int} {f17 : Option Addr} {W1 : World} {S : Nat → Prop} (h : IsS29 w0 W g f0 f1 f2 f3 f4 f5 f6 f7 f8 f9 f10 f11 f12 f13 f14 f15 f16 f17) (hk : Kept W W1 S) (hne : ¬ S g) : IsS29 w0 W1 g f0 f1 f2 f3 f4 f5 f6 f7 f8 f9 f10 f11 f12 f13 f14 f15 f16 f17 := by
  obtain ⟨A9, c9, A10, c10, hb, hg, hr9, hr10⟩ := h
  exact ⟨A9, c9, A10, c10, blk_kept hb hk hne, hg, hr9, hr10⟩
theorem IsS29.below {w0 W : World} {g : Nat} {f0 : Int} {f1 : Int} {f2 : Bool} {f3 : Bool} {f4 : Int} {f5 : Int} {f6 : Int} {f7 : Int} {f8 : Int} {f9 : List Int} {f10 : List Int} {f11 : Int} {f12 : Int} {f13 : Int} {f14 : Int} {f15 : Int} {f16 : Int} {f17 : Option Addr} {W1 : World} (h : IsS29 w0 W g f0 f1 f2 f3 f4 f5 f6 f7 f8 f9 f10 f11 f12 f13 f14 f15 f16 f17) (hw : Below W.heap.size W W1) : IsS29 w0 W1 g f0 f1 f2 f3 f4 f5 f6 f7 f8 f9 f10 f11 f12 f13 f14 f15 f16 f17 := h.grown (grown_of_below hw none) (by simp)
theorem IsS29.alloc {w0 W : World} {g : Nat} {f0 : Int} {f1 : Int} {f2 : Bool} {f3 : Bool} {f4 : Int} {f5 : Int} {f6 : Int} {f7 : Int} {f8 : Int} {f9 : List Int} {f10 : List Int} {f11 : Int} {f12 : Int} {f13 : Int} {f14 : Int} {f15 : Int} {f16 : Int} {f17 : Option Addr} (h : IsS29 w0 W g f0 f1 f2 f3 f4 f5 f6 f7 f8 f9 f10 f11 f12 f13 f14 f15 f16 f17) (o : Obj) : IsS29 w0 (W.alloc o) g f0 f1 f2 f3 f4 f5 f6 f7 f8 f9 f10 f11 f12 f13 f14 f15 f16 f17 := h.below (below_alloc (Below.refl _ _) o)
theorem IsS29.drewN {w0 W : World} {g : Nat} {f0 : Int} {f1 : Int} {f2 : Bool} {f3 : Bool} {f4 : Int} {f5 : Int} {f6 : Int} {f7 : Int} {f8 : Int} {f9 : List Int} {f10 : List Int} {f11 : Int} {f12 : Int} {f13 : Int} {f14 : Int} {f15 : Int} {f16 : Int} {f17 : Option Addr} (h : IsS29 w0 W g f0 f1 f2 f3 f4 f5 f6 f7 f8 f9 f10 f11 f12 f13 f14 f15 f16 f17) (m : Nat) : IsS29 w0 (W.drewN m) g f0 f1 f2 f3 f4 f5 f6 f7 f8 f9 f10 f11 f12 f13 f14 f15 f16 f17 := h
theorem IsS29.drew {w0 W : World} {g : Nat} {f0 : Int} {f1 : Int} {f2 : Bool} {f3 : Bool} {f4 : Int} {f5 : Int} {f6 : Int} {f7 : Int} {f8 : Int} {f9 : List Int} {f10 : List Int} {f11 : Int} {f12 : Int} {f13 : Int} {f14 : Int} {f15 : Int} {f16 : Int} {f17 : Option Addr} (h : IsS29 w0 W g f0 f1 f2 f3 f4 f5 f6 f7 f8 f9 f10 f11 f12 f13 f14 f15 f16 f17) : IsS29 w0 W.drew g f0 f1 f2 f3 f4 f5 f6 f7 f8 f9 f10 f11 f12 f13 f14 f15 f16 f17 := h
theorem IsS29.at_ {w0 W : World} {g : Nat} {f0 : Int} {f1 : Int} {f2 : Bool} {f3 : Bool} {f4 : Int} {f5 : Int} {f6 : Int} {f7 : Int} {f8 : Int} {f9 : List Int} {f10 : List Int} {f11 : Int} {f12 : Int} {f13 : Int} {f14 : Int} {f15 : Int} {f16 : Int} {f17 : Option Addr} {w' : World} {m : Nat} (hq : W.drewN m = w') (h : IsS29 w0 W g f0 f1 f2 f3 f4 f5 f6 f7 f8 f9 f10 f11 f12 f13 f14 f15 f16 f17) : IsS29 w0 w' g f0 f1 f2 f3 f4 f5 f6 f7 f8 f9 f10 f11 f12 f13 f14 f15 f16 f17 := by subst hq; exact IsS29.drewN h m
theorem IsS29.apart {w0 W : World} {g : Nat} {f0 : Int} {f1 : Int} {f2 : Bool} {f3 : Bool} {f4 : Int} {f5 : Int} {f6 : Int} {f7 : Int} {f8 : Int} {f9 : List Int} {f10 : List Int} {f11 : Int} {f12 : Int} {f13 : Int} {f14 : Int} {f15 : Int} {f16 : Int} {f17 : Option Addr} {α : Type} {d : Kd α} {e : Nat} {base : Nat} {ok : Nat → Prop} {v : Value} {xs : List α} (h : IsS29 w0 W g f0 f1 f2 f3 f4 f5 f6 f7 f8 f9 f10 f11 f12 f13 f14 f15 f16 f17) (ho : d.R e W base ok v xs) (ht : ∀ q, q ∈ e :: d.E → q ≠ 29) : d.R e W base (fun k => ok k ∧ k ≠ g) v xs := by
  obtain ⟨A9, c9, A10, c10, hb, hg, hr9, hr10⟩ := h
  exact Kd.R_types ho hb ht
theorem IsS29.own_ne {w0 W : World} {g : Nat} {f0 : Int} {f1 : Int} {f2 : Bool} {f3 : Bool} {f4 : Int} {f5 : Int} {f6 : Int} {f7 : Int} {f8 : Int} {f9 : List Int} {f10 : List Int} {f11 : Int} {f12 : Int} {f13 : Int} {f14 : Int} {f15 : Int} {f16 : Int} {f17 : Option Addr} {α : Type} {d : Kd α} {e : Nat} {base : Nat} {ok : Nat → Prop} {v : Value} {xs : List α} (h : IsS29 w0 W g f0 f1 f2 f3 f4 f5 f6 f7 f8 f9 f10 f11 f12 f13 f14 f15 f16 f17) (ho : d.R e W base ok v xs) (ht : e ≠ 29) : some g ≠ v.ownBlock := by
  obtain ⟨A9, c9, A10, c10, hb, hg, hr9, hr10⟩ := h
  exact Kd.R_ne ho hb ht
theorem IsS29.apartQ {w0 W : World} {g : Nat} {f0 : Int} {f1 : Int} {f2 : Bool} {f3 : Bool} {f4 : Int} {f5 : Int} {f6 : Int} {f7 : Int} {f8 : Int} {f9 : List Int} {f10 : List Int} {f11 : Int} {f12 : Int} {f13 : Int} {f14 : Int} {f15 : Int} {f16 : Int} {f17 : Option Addr} {α : Type} {d : Kd α} {e : Nat} {base : Nat} {ok : Nat → Prop} {v : Value} {xs : List α} (h : IsS29 w0 W g f0 f1 f2 f3 f4 f5 f6 f7 f8 f9 f10 f11 f12 f13 f14 f15 f16 f17) (ho : d.Q e W base ok v xs) (ht : ∀ q, q ∈ e :: d.E → q ≠ 29) : d.Q e W base (fun k => ok k ∧ k ≠ g) v xs := by
  obtain ⟨A9, c9, A10, c10, hb, hg, hr9, hr10⟩ := h
  exact Kd.Q_types ho hb ht
theorem IsS29.own_neQ {w0 W : World} {g : Nat} {f0 : Int} {f1 : Int} {f2 : Bool} {f3 : Bool} {f4 : Int} {f5 : Int} {f6 : Int} {f7 : Int} {f8 : Int} {f9 : List Int} {f10 : List Int} {f11 : Int} {f12 : Int} {f13 : Int} {f14 : Int} {f15 : Int} {f16 : Int} {f17 : Option Addr} {α : Type} {d : Kd α} {e : Nat} {base : Nat} {ok : Nat → Prop} {v : Value} {xs : List α} (h : IsS29 w0 W g f0 f1 f2 f3 f4 f5 f6 f7 f8 f9 f10 f11 f12 f13 f14 f15 f16 f17) (ho : d.Q e W base ok v xs) (ht : e ≠ 29) : some g ≠ v.ownBlock := by
  obtain ⟨A9, c9, A10, c10, hb, hg, hr9, hr10⟩ := h
  exact Kd.Q_ne ho hb ht
theorem IsS29.apartS {w0 W : World} {g : Nat} {f0 : Int} {f1 : Int} {f2 : Bool} {f3 : Bool} {f4 : Int} {f5 : Int} {f6 : Int} {f7 : Int} {f8 : Int} {f9 : List Int} {f10 : List Int} {f11 : Int} {f12 : Int} {f13 : Int} {f14 : Int} {f15 : Int} {f16 : Int} {f17 : Option Addr} {α : Type} {d : Kd α} {e : Nat} {base : Nat} {ok : Nat → Prop} {v : Value} {xs : List α} (h : IsS29 w0 W g f0 f1 f2 f3 f4 f5 f6 f7 f8 f9 f10 f11 f12 f13 f14 f15 f16 f17) (ho : d.S e W base ok v xs) (ht : ∀ q, q ∈ e :: d.E → q ≠ 29) : d.S e W base (fun k => ok k ∧ k ≠ g) v xs := by
  obtain ⟨A9, c9, A10, c10, hb, hg, hr9, hr10⟩ := h
  exact Kd.S_types ho hb ht
theorem IsS29.own_neS {w0 W : World} {g : Nat} {f0 : Int} {f1 : Int} {f2 : Bool} {f3 : Bool} {f4 : Int} {f5 : Int} {f6 : Int} {f7 : Int} {f8 : Int} {f9 : List Int} {f10 : List Int} {f11 : Int} {f12 : Int} {f13 : Int} {f14 : Int} {f15 : Int} {f16 : Int} {f17 : Option Addr} {α : Type} {d : Kd α} {e : Nat} {base : Nat} {ok : Nat → Prop} {v : Value} {xs : List α} (h : IsS29 w0 W g f0 f1 f2 f3 f4 f5 f6 f7 f8 f9 f10 f11 f12 f13 f14 f15 f16 f17) (ho : d.S e W base ok v xs) (ht : e ≠ 29) : some g ≠ v.ownBlock := by
  obtain ⟨A9, c9, A10, c10, hb, hg, hr9, hr10⟩ := h
  exact Kd.S_ne ho hb ht
theorem IsS29.lt {w0 W : World} {g : Nat} {f0 : Int} {f1 : Int} {f2 : Bool} {f3 : Bool} {f4 : Int} {f5 : Int} {f6 : Int} {f7 : Int} {f8 : Int} {f9 : List Int} {f10 : List Int} {f11 : Int} {f12 : Int} {f13 : Int} {f14 : Int} {f15 : Int} {f16 : Int} {f17 : Option Addr} (h : IsS29 w0 W g f0 f1 f2 f3 f4 f5 f6 f7 f8 f9 f10 f11 f12 f13 f14 f15 f16 f17) : g < W.heap.size := by
  obtain ⟨A9, c9, A10, c10, hb, hg, hr9, hr10⟩ := h
  exact blk_lt hb
theorem IsS29.ge {w0 W : World} {g : Nat} {f0 : Int} {f1 : Int} {f2 : Bool} {f3 : Bool} {f4 : Int} {f5 : Int} {f6 : Int} {f7 : Int} {f8 : Int} {f9 : List Int} {f10 : List Int} {f11 : Int} {f12 : Int} {f13 : Int} {f14 : Int} {f15 : Int} {f16 : Int} {f17 : Option Addr} (h : IsS29 w0 W g f0 f1 f2 f3 f4 f5 f6 f7 f8 f9 f10 f11 f12 f13 f14 f15 f16 f17) : w0.heap.size ≤ g := by
  obtain ⟨A9, c9, A10, c10, hb, hg, hr9, hr10⟩ := h
  exact hg
theorem IsS29.ne_blk {w0 W : World} {g : Nat} {f0 : Int} {f1 : Int} {f2 : Bool} {f3 : Bool} {f4 : Int} {f5 : Int} {f6 : Int} {f7 : Int} {f8 : Int} {f9 : List Int} {f10 : List Int} {f11 : Int} {f12 : Int} {f13 : Int} {f14 : Int} {f15 : Int} {f16 : Int} {f17 : Option Addr} {a : Nat} {cs : Array Value} {t : TypeId} {fr : Nat × Nat} (h : IsS29 w0 W g f0 f1 f2 f3 f4 f5 f6 f7 f8 f9 f10 f11 f12 f13 f14 f15 f16 f17) (hb2 : W.heap[a]? = some (.cells cs t fr)) (ht : t ≠ 29) : g ≠ a := by
  obtain ⟨A9, c9, A10, c10, hb, hg, hr9, hr10⟩ := h
  rintro rfl
  rw [hb] at hb2
  injection hb2 with hb2
  injection hb2 with _ ht2
  exact ht ht2.symm
theorem IsS29.far {w0 W : World} {g : Nat} {f0 : Int} {f1 : Int} {f2 : Bool} {f3 : Bool} {f4 : Int} {f5 : Int} {f6 : Int} {f7 : Int} {f8 : Int} {f9 : List Int} {f10 : List Int} {f11 : Int} {f12 : Int} {f13 : Int} {f14 : Int} {f15 : Int} {f16 : Int} {f17 : Option Addr} {p : Addr} (h : IsS29 w0 W g f0 f1 f2 f3 f4 f5 f6 f7 f8 f9 f10 f11 f12 f13 f14 f15 f16 f17) (hne : g ≠ p.block) (u : Value) : IsS29 w0 (W.setCell p u) g f0 f1 f2 f3 f4 f5 f6 f7 f8 f9 f10 f11 f12 f13 f14 f15 f16 f17 := by
  obtain ⟨A9, c9, A10, c10, hb, hg, hr9, hr10⟩ := h
  exact ⟨A9, c9, A10, c10, blk_far hb hne u, hg, hr9, hr10⟩
theorem cellS29_0 {W : World} {g : Nat} {A9 : Option Addr} {c9 : Nat} {A10 : Option Addr} {c10 : Nat} {f0 : Int} {f1 : Int} {f2 : Bool} {f3 : Bool} {f4 : Int} {f5 : Int} {f6 : Int} {f7 : Int} {f8 : Int} {f9 : List Int} {f10 : List Int} {f11 : Int} {f12 : Int} {f13 : Int} {f14 : Int} {f15 : Int} {f16 : Int} {f17 : Option Addr} (h : W.heap[g]? = some (.cells #[.int .i64 f0, .int .i64 f1, .bool f2, .bool f3, .int .i64 f4, .int .i64 f5, .int .i64 f6, .int .u32 f7, .int .u32 f8, .slice A9 f9.length c9, .slice A10 f10.length c10, .int .i64 f11, .int .i64 f12, .int .i64 f13, .int .i64 f14, .int .i64 f15, .int .i64 f16, .pointer f17] 29 (0, 0))) : W.cell? ⟨g, 0, none⟩ = some (.int .i64 f0) := (blk_cell h 0).trans rfl
theorem IsS29.set_0 {w0 W : World} {g : Nat} {f0 : Int} {f1 : Int} {f2 : Bool} {f3 : Bool} {f4 : Int} {f5 : Int} {f6 : Int} {f7 : Int} {f8 : Int} {f9 : List Int} {f10 : List Int} {f11 : Int} {f12 : Int} {f13 : Int} {f14 : Int} {f15 : Int} {f16 : Int} {f17 : Option Addr} (h : IsS29 w0 W g f0 f1 f2 f3 f4 f5 f6 f7 f8 f9 f10 f11 f12 f13 f14 f15 f16 f17) (x : Int) : IsS29 w0 (W.setCell ⟨g, 0, none⟩ (.int .i64 x)) g x f1 f2 f3 f4 f5 f6 f7 f8 f9 f10 f11 f12 f13 f14 f15 f16 f17 := by
  obtain ⟨A9, c9, A10, c10, hb, hg, hr9, hr10⟩ := h
  exact ⟨A9, c9, A10, c10, by simpa using blk_set hb 0 (.int .i64 x), hg, hr9, hr10⟩
theorem cellS29_1 {W : World} {g : Nat} {A9 : Option Addr} {c9 : Nat} {A10 : Option Addr} {c10 : Nat} {f0 : Int} {f1 : Int} {f2 : Bool} {f3 : Bool} {f4 : Int} {f5 : Int} {f6 : Int} {f7 : Int} {f8 : Int} {f9 : List Int} {f10 : List Int} {f11 : Int} {f12 : Int} {f13 : Int} {f14 : Int} {f15 : Int} {f16 : Int} {f17 : Option Addr} (h : W.heap[g]? = some (.cells #[.int .i64 f0, .int .i64 f1, .bool f2, .bool f3, .int .i64 f4, .int .i64 f5, .int .i64 f6, .int .u32 f7, .int .u32 f8, .slice A9 f9.length c9, .slice A10 f10.length c10, .int .i64 f11, .int .i64 f12, .int .i64 f13, .int .i64 f14, .int .i64 f15, .int .i64 f16, .pointer f17] 29 (0, 0))) : W.cell? ⟨g, 1, none⟩ = some (.int .i64 f1) := (blk_cell h 1).trans rfl
theorem IsS29.set_1 {w0 W : World} {g : Nat} {f0 : Int} {f1 : Int} {f2 : Bool} {f3 : Bool} {f4 : Int} {f5 : Int} {f6 : Int} {f7 : Int} {f8 : Int} {f9 : List Int} {f10 : List Int} {f11 : Int} {f12 : Int} {f13 : Int} {f14 : Int} {f15 : Int} {f16 : Int} {f17 : Option Addr} (h : IsS29 w0 W g f0 f1 f2 f3 f4 f5 f6 f7 f8 f9 f10 f11 f12 f13 f14 f15 f16 f17) (x : Int) : IsS29 w0 (W.setCell ⟨g, 1, none⟩ (.int .i64 x)) g f0 x f2 f3 f4 f5 f6 f7 f8 f9 f10 f11 f12 f13 f14 f15 f16 f17 := by
  obtain ⟨A9, c9, A10, c10, hb, hg, hr9, hr10⟩ := h
  exact ⟨A9, c9, A10, c10, by simpa using blk_set hb 1 (.int .i64 x), hg, hr9, hr10⟩
theorem cellS29_2 {W : World} {g : Nat} {A9 : Option Addr} {c9 : Nat} {A10 : Option Addr} {c10 : Nat} {f0 : Int} {f1 : Int} {f2 : Bool} {f3 : Bool} {f4 : Int} {f5 : Int} {f6 : Int} {f7 : Int} {f8 : Int} {f9 : List Int} {f10 : List Int} {f11 : Int} {f12 : Int} {f13 : Int} {f14 : Int} {f15 : Int} {f16 : Int} {f17 : Option Addr} (h : W.heap[g]? = some (.cells #[.int .i64 f0, .int .i64 f1, .bool f2, .bool f3, .int .i64 f4, .int .i64 f5, .int .i64 f6, .int .u32 f7, .int .u32 f8, .slice A9 f9.length c9, .slice A10 f10.length c10, .int .i64 f11, .int .i64 f12, .int .i64 f13, .int .i64 f14, .int .i64 f15, .int .i64 f16, .pointer f17] 29 (0, 0))) : W.cell? ⟨g, 2, none⟩ = some (.bool f2) := (blk_cell h 2).trans rfl
theorem IsS29.set_2 {w0 W : World} {g : Nat} {f0 : Int} {f1 : Int} {f2 : Bool} {f3 : Bool} {f4 : Int} {f5 : Int} {f6 : Int} {f7 : Int} {f8 : Int} {f9 : List Int} {f10 : List Int} {f11 : Int} {f12 : Int} {f13 : Int} {f14 : Int} {f15 : Int} {f16 : Int} {f17 : Option Addr} (h : IsS29 w0 W g f0 f1 f2 f3 f4 f5 f6 f7 f8 f9 f10 f11 f12 f13 f14 f15 f16 f17) (x : Bool) : IsS29 w0 (W.setCell ⟨g, 2, none⟩ (.bool x)) g f0 f1 x f3 f4 f5 f6 f7 f8 f9 f10 f11 f12 f13 f14 f15 f16 f17 := by
  obtain ⟨A9, c9, A10, c10, hb, hg, hr9, hr10⟩ := h
  exact ⟨A9, c9, A10, c10, by simpa using blk_set hb 2 (.bool x), hg, hr9, hr10⟩
theorem cellS29_3 {W : World} {g : Nat} {A9 : Option Addr} {c9 : Nat} {A10 : Option Addr} {c10 : Nat} {f0 : Int} {f1 : Int} {f2 : Bool} {f3 : Bool} {f4 : Int} {f5 : Int} {f6 : Int} {f7 : Int} {f8 : Int} {f9 : List Int} {f10 : List Int} {f11 : Int} {f12 : Int} {f13 : Int} {f14 : Int} {f15 : Int} {f16 : Int} {f17 : Option Addr} (h : W.heap[g]? = some (.cells #[.int .i64 f0, .int .i64 f1, .bool f2, .bool f3, .int .i64 f4, .int .i64 f5, .int .i64 f6, .int .u32 f7, .int .u32 f8, .slice A9 f9.length c9, .slice A10 f10.length c10, .int .i64 f11, .int .i64 f12, .int .i64 f13, .int .i64 f14, .int .i64 f15, .int .i64 f16, .pointer f17] 29 (0, 0))) : W.cell? ⟨g, 3, none⟩ = some (.bool f3) := (blk_cell h 3).trans rfl
theorem IsS29.set_3 {w0 W : World} {g : Nat} {f0 : Int} {f1 : Int} {f2 : Bool} {f3 : Bool} {f4 : Int} {f5 : Int} {f6 : Int} {f7 : Int} {f8 : Int} {f9 : List Int} {f10 : List Int} {f11 : Int} {f12 : Int} {f13 : Int} {f14 : Int} {f15 : Int} {f16 : Int} {f17 : Option Addr} (h : IsS29 w0 W g f0 f1 f2 f3 f4 f5 f6 f7 f8 f9 f10 f11 f12 f13 f14 f15 f16 f17) (x : Bool) : IsS29 w0 (W.setCell ⟨g, 3, none⟩ (.bool x)) g f0 f1 f2 x f4 f5 f6 f7 f8 f9 f10 f11 f12 f13 f14 f15 f16 f17 := by
  obtain ⟨A9, c9, A10, c10, hb, hg, hr9, hr10⟩ := h
  exact ⟨A9, c9, A10, c10, by simpa using blk_set hb 3 (.bool x), hg, hr9, hr10⟩
theorem cellS29_4 {W : World} {g : Nat} {A9 : Option Addr} {c9 : Nat} {A10 : Option Addr} {c10 : Nat} {f0 : Int} {f1 : Int} {f2 : Bool} {f3 : Bool} {f4 : Int} {f5 : Int} {f6 : Int} {f7 : Int} {f8 : Int} {f9 : List Int} {f10 : List Int} {f11 : Int} {f12 : Int} {f13 : Int} {f14 : Int} {f15 : Int} {f16 : Int} {f17 : Option Addr} (h : W.heap[g]? = some (.cells #[.int .i64 f0, .int .i64 f1, .bool f2, .bool f3, .int .i64 f4, .int .i64 f5, .int .i64 f6, .int .u32 f7, .int .u32 f8, .slice A9 f9.length c9, .slice A10 f10.length c10, .int .i64 f11, .int .i64 f12, .int .i64 f13, .int .i64 f14, .int .i64 f15, .int .i64 f16, .pointer f17] 29 (0, 0))) : W.cell? ⟨g, 4, none⟩ = some (.int .i64 f4) := (blk_cell h 4).trans rfl
theorem IsS29.set_4 {w0 W : World} {g : Nat} {f0 : Int} {f1 : Int} {f2 : Bool} {f3 : Bool} {f4 : Int} {f5 : Int} {f6 : Int} {f7 : Int} {f8 : Int} {f9 : List Int} {f10 : List Int} {f11 : Int} {f12 : Int} {f13 : Int} {f14 : Int} {f15 : Int} {f16 : Int} {f17 : Option Addr} (h : IsS29 w0 W g f0 f1 f2 f3 f4 f5 f6 f7 f8 f9 f10 f11 f12 f13 f14 f15 f16 f17) (x : Int) : IsS29 w0 (W.setCell ⟨g, 4, none⟩ (.int .i64 x)) g f0 f1 f2 f3 x f5 f6 f7 f8 f9 f10 f11 f12 f13 f14 f15 f16 f17 := by
  obtain ⟨A9, c9, A10, c10, hb, hg, hr9, hr10⟩ := h
  exact ⟨A9, c9, A10, c10, by simpa using blk_set hb 4 (.int .i64 x), hg, hr9, hr10⟩
theorem cellS29_5 {W : World} {g : Nat} {A9 : Option Addr} {c9 : Nat} {A10 : Option Addr} {c10 : Nat} {f0 : Int} {f1 : Int} {f2 : Bool} {f3 : Bool} {f4 : Int} {f5 : Int} {f6 : Int} {f7 : Int} {f8 : Int} {f9 : List Int} {f10 : List Int} {f11 : Int} {f12 : Int} {f13 : Int} {f14 : Int} {f15 : Int} {f16 : Int} {f17 : Option Addr} (h : W.heap[g]? = some (.cells #[.int .i64 f0, .int .i64 f1, .bool f2, .bool f3, .int .i64 f4, .int .i64 f5, .int .i64 f6, .int .u32 f7, .int .u32 f8, .slice A9 f9.length c9, .slice A10 f10.length c10, .int .i64 f11, .int .i64 f12, .int .i64 f13, .int .i64 f14, .int .i64 f15, .int .i64 f16, .pointer f17] 29 (0, 0))) : W.cell? ⟨g, 5, none⟩ = some (.int .i64 f5) := (blk_cell h 5).trans rfl
theorem IsS29.set_5 {w0 W : World} {g : Nat} {f0 : Int} {f1 : Int} {f2 : Bool} {f3 : Bool} {f4 : Int} {f5 : Int} {f6 : Int} {f7 : Int} {f8 : Int} {f9 : List Int} {f10 : List Int} {f11 : Int} {f12 : Int} {f13 : Int} {f14 : Int} {f15 : Int} {f16 : Int} {f17 : Option Addr} (h : IsS29 w0 W g f0 f1 f2 f3 f4 f5 f6 f7 f8 f9 f10 f11 f12 f13 f14 f15 f16 f17) (x : Int) : IsS29 w0 (W.setCell ⟨g, 5, none⟩ (.int .i64 x)) g f0 f1 f2 f3 f4 x f6 f7 f8 f9 f10 f11 f12 f13 f14 f15 f16 f17 := by
  obtain ⟨A9, c9, A10, c10, hb, hg, hr9, hr10⟩ := h
  exact ⟨A9, c9, A10, c10, by simpa using blk_set hb 5 (.int .i64 x), hg, hr9, hr10⟩
theorem cellS29_6 {W : World} {g : Nat} {A9 : Option Addr} {c9 : Nat} {A10 : Option Addr} {c10 : Nat} {f0 : Int} {f1 : Int} {f2 : Bool} {f3 : Bool} {f4 : Int} {f5 : Int} {f6 : Int} {f7 : Int} {f8 : Int} {f9 : List Int} {f10 : List Int} {f11 : Int} {f12 : Int} {f13 : Int} {f14 : Int} {f15 : Int} {f16 : Int} {f17 : Option Addr} (h : W.heap[g]? = some (.cells #[.int .i64 f0, .int .i64 f1, .bool f2, .bool f3, .int .i64 f4, .int .i64 f5, .int .i64 f6, .int .u32 f7, .int .u32 f8, .slice A9 f9.length c9, .slice A10 f10.length c10, .int .i64 f11, .int .i64 f12, .int .i64 f13, .int .i64 f14, .int .i64 f15, .int .i64 f16, .pointer f17] 29 (0, 0))) : W.cell? ⟨g, 6, none⟩ = some (.int .i64 f6) := (blk_cell h 6).trans rfl
theorem IsS29.set_6 {w0 W : World} {g : Nat} {f0 : Int} {f1 : Int} {f2 : Bool} {f3 : Bool} {f4 : Int} {f5 : Int} {f6 : Int} {f7 : Int} {f8 : Int} {f9 : List Int} {f10 : List Int} {f11 : Int} {f12 : Int} {f13 : Int} {f14 : Int} {f15 : Int} {f16 : Int} {f17 : Option Addr} (h : IsS29 w0 W g f0 f1 f2 f3 f4 f5 f6 f7 f8 f9 f10 f11 f12 f13 f14 f15 f16 f17) (x : Int) : IsS29 w0 (W.setCell ⟨g, 6, none⟩ (.int .i64 x)) g f0 f1 f2 f3 f4 f5 x f7 f8 f9 f10 f11 f12 f13 f14 f15 f16 f17 := by
  obtain ⟨A9, c9, A10, c10, hb, hg, hr9, hr10⟩ := h
  exact ⟨A9, c9, A10, c10, by simpa using blk_set hb 6 (.int .i64 x), hg, hr9, hr10⟩
theorem cellS29_7 {W : World} {g : Nat} {A9 : Option Addr} {c9 : Nat} {A10 : Option Addr} {c10 : Nat} {f0 : Int} {f1 : Int} {f2 : Bool} {f3 : Bool} {f4 : Int} {f5 : Int} {f6 : Int} {f7 : Int} {f8 : Int} {f9 : List Int} {f10 : List Int} {f11 : Int} {f12 : Int} {f13 : Int} {f14 : Int} {f15 : Int} {f16 : Int} {f17 : Option Addr} (h : W.heap[g]? = some (.cells #[.int .i64 f0, .int .i64 f1, .bool f2, .bool f3, .int .i64 f4, .int .i64 f5, .int .i64 f6, .int .u32 f7, .int .u32 f8, .slice A9 f9.length c9, .slice A10 f10.length c10, .int .i64 f11, .int .i64 f12, .int .i64 f13, .int .i64 f14, .int .i64 f15, .int .i64 f16, .pointer f17] 29 (0, 0))) : W.cell? ⟨g, 7, none⟩ = some (.int .u32 f7) := (blk_cell h 7).trans rfl
theorem IsS29.set_7 {w0 W : World} {g : Nat} {f0 : Int} {f1 : Int} {f2 : Bool} {f3 : Bool} {f4 : Int} {f5 : Int} {f6 : Int} {f7 : Int} {f8 : Int} {f9 : List Int} {f10 : List Int} {f11 : Int} {f12 : Int} {f13 : Int} {f14 : Int} {f15 : Int} {f16 : Int} {f17 : Option Addr} (h : IsS29 w0 W g f0 f1 f2 f3 f4 f5 f6 f7 f8 f9 f10 f11 f12 f13 f14 f15 f16 f17) (x : Int) : IsS29 w0 (W.setCell ⟨g, 7, none⟩ (.int .u32 x)) g f0 f1 f2 f3 f4 f5 f6 x f8 f9 f10 f11 f12 f13 f14 f15 f16 f17 := by
  obtain ⟨A9, c9, A10, c10, hb, hg, hr9, hr10⟩ := h
  exact ⟨A9, c9, A10, c10, by simpa using blk_set hb 7 (.int .u32 x), hg, hr9, hr10⟩
theorem cellS29_8 {W : World} {g : Nat} {A9 : Option Addr} {c9 : Nat} {A10 : Option Addr} {c10 : Nat} {f0 : Int} {f1 : Int} {f2 : Bool} {f3 : Bool} {f4 : Int} {f5 : Int} {f6 : Int} {f7 : Int} {f8 : Int} {f9 : List Int} {f10 : List Int} {f11 : Int} {f12 : Int} {f13 : Int} {f14 : Int} {f15 : Int} {f16 : Int} {f17 : Option Addr} (h : W.heap[g]? = some (.cells #[.int .i64 f0, .int .i64 f1, .bool f2, .bool f3, .int .i64 f4, .int .i64 f5, .int .i64 f6, .int .u32 f7, .int .u32 f8, .slice A9 f9.length c9, .slice A10 f10.length c10, .int .i64 f11, .int .i64 f12, .int .i64 f13, .int .i64 f14, .int .i64 f15, .int .i64 f16, .pointer f17] 29 (0, 0))) : W.cell? ⟨g, 8, none⟩ = some (.int .u32 f8) := (blk_cell h 8).trans rfl
theorem IsS29.set_8 {w0 W : World} {g : Nat} {f0 : Int} {f1 : Int} {f2 : Bool} {f3 : Bool} {f4 : Int} {f5 : Int} {f6 : Int} {f7 : Int} {f8 : Int} {f9 : List Int} {f10 : List Int} {f11 : Int} {f12 : Int} {f13 : Int} {f14 : Int} {f15 : Int} {f16 : Int} {f17 : Option Addr} (h : IsS29 w0 W g f0 f1 f2 f3 f4 f5 f6 f7 f8 f9 f10 f11 f12 f13 f14 f15 f16 f17) (x : Int) : IsS29 w0 (W.setCell ⟨g, 8, none⟩ (.int .u32 x)) g f0 f1 f2 f3 f4 f5 f6 f7 x f9 f10 f11 f12 f13 f14 f15 f16 f17 := by
  obtain ⟨A9, c9, A10, c10, hb, hg, hr9, hr10⟩ := h
  exact ⟨A9, c9, A10, c10, by simpa using blk_set hb 8 (.int .u32 x), hg, hr9, hr10⟩
theorem cellS29_9 {W : World} {g : Nat} {A9 : Option Addr} {c9 : Nat} {A10 : Option Addr} {c10 : Nat} {f0 : Int} {f1 : Int} {f2 : Bool} {f3 : Bool} {f4 : Int} {f5 : Int} {f6 : Int} {f7 : Int} {f8 : Int} {f9 : List Int} {f10 : List Int} {f11 : Int} {f12 : Int} {f13 : Int} {f14 : Int} {f15 : Int} {f16 : Int} {f17 : Option Addr} (h : W.heap[g]? = some (.cells #[.int .i64 f0, .int .i64 f1, .bool f2, .bool f3, .int .i64 f4, .int .i64 f5, .int .i64 f6, .int .u32 f7, .int .u32 f8, .slice A9 f9.length c9, .slice A10 f10.length c10, .int .i64 f11, .int .i64 f12, .int .i64 f13, .int .i64 f14, .int .i64 f15, .int .i64 f16, .pointer f17] 29 (0, 0))) : W.cell? ⟨g, 9, none⟩ = some (.slice A9 f9.length c9) := (blk_cell h 9).trans rfl
theorem cellS29_10 {W : World} {g : Nat} {A9 : Option Addr} {c9 : Nat} {A10 : Option Addr} {c10 : Nat} {f0 : Int} {f1 : Int} {f2 : Bool} {f3 : Bool} {f4 : Int} {f5 : Int} {f6 : Int} {f7 : Int} {f8 : Int} {f9 : List Int} {f10 : List Int} {f11 : Int} {f12 : Int} {f13 : Int} {f14 : Int} {f15 : Int} {f16 : Int} {f17 : Option Addr} (h : W.heap[g]? = some (.cells #[.int .i64 f0, .int .i64 f1, .bool f2, .bool f3, .int .i64 f4, .int .i64 f5, .int .i64 f6, .int .u32 f7, .int .u32 f8, .slice A9 f9.length c9, .slice A10 f10.length c10, .int .i64 f11, .int .i64 f12, .int .i64 f13, .int .i64 f14, .int .i64 f15, .int .i64 f16, .pointer f17] 29 (0, 0))) : W.cell? ⟨g, 10, none⟩ = some (.slice A10 f10.length c10) := (blk_cell h 10).trans rfl
theorem cellS29_11 {W : World} {g : Nat} {A9 : Option Addr} {c9 : Nat} {A10 : Option Addr} {c10 : Nat} {f0 : Int} {f1 : Int} {f2 : Bool} {f3 : Bool} {f4 : Int} {f5 : Int} {f6 : Int} {f7 : Int} {f8 : Int} {f9 : List Int} {f10 : List Int} {f11 : Int} {f12 : Int} {f13 : Int} {f14 : Int} {f15 : Int} {f16 : Int} {f17 : Option Addr} (h : W.heap[g]? = some (.cells #[.int .i64 f0, .int .i64 f1, .bool f2, .bool f3, .int .i64 f4, .int .i64 f5, .int .i64 f6, .int .u32 f7, .int .u32 f8, .slice A9 f9.length c9, .slice A10 f10.length c10, .int .i64 f11, .int .i64 f12, .int .i64 f13, .int .i64 f14, .int .i64 f15, .int .i64 f16, .pointer f17] 29 (0, 0))) : W.cell? ⟨g, 11, none⟩ = some (.int .i64 f11) := (blk_cell h 11).trans rfl
theorem IsS29.set_11 {w0 W : World} {g : Nat} {f0 : Int} {f1 : Int} {f2 : Bool} {f3 : Bool} {f4 : Int} {f5 : Int} {f6 : Int} {f7 : Int} {f8 : Int} {f9 : List Int} {f10 : List Int} {f11 : Int} {f12 : Int} {f13 : Int} {f14 : Int} {f15 : Int} {f16 : Int} {f17 : Option Addr} (h : IsS29 w0 W g f0 f1 f2 f3 f4 f5 f6 f7 f8 f9 f10 f11 f12 f13 f14 f15 f16 f17) (x : Int) : IsS29 w0 (W.setCell ⟨g, 11, none⟩ (.int .i64 x)) g f0 f1 f2 f3 f4 f5 f6 f7 f8 f9 f10 x f12 f13 f14 f15 f16 f17 := by
  obtain ⟨A9, c9, A10, c10, hb, hg, hr9, hr10⟩ := h
  exact ⟨A9, c9, A10, c10, by simpa using blk_set hb 11 (.int .i64 x), hg, hr9, hr10⟩
theorem cellS29_12 {W : World} {g : Nat} {A9 : Option Addr} {c9 : Nat} {A10 : Option Addr} {c10 : Nat} {f0 : Int} {f1 : Int} {f2 : Bool} {f3 : Bool} {f4 : Int} {f5 : Int} {f6 : Int} {f7 : Int} {f8 : Int} {f9 : List Int} {f10 : List Int} {f11 : Int} {f12 : Int} {f13 : Int} {f14 : Int} {f15 : Int} {f16 : Int} {f17 : Option Addr} (h : W.heap[g]? = some (.cells #[.int .i64 f0, .int .i64 f1, .bool f2, .bool f3, .int .i64 f4, .int .i64 f5, .int .i64 f6, .int .u32 f7, .int .u32 f8, .slice A9 f9.length c9, .slice A10 f10.length c10, .int .i64 f11, .int .i64 f12, .int .i64 f13, .int .i64 f14, .int .i64 f15, .int .i64 f16, .pointer f17] 29 (0, 0))) : W.cell? ⟨g, 12, none⟩ = some (.int .i64 f12) := (blk_cell h 12).trans rfl
theorem IsS29.set_12 {w0 W : World} {g : Nat} {f0 : Int} {f1 : Int} {f2 : Bool} {f3 : Bool} {f4 : Int} {f5 : Int} {f6 : Int} {f7 : Int} {f8 : Int} {f9 : List Int} {f10 : List Int} {f11 : Int} {f12 : Int} {f13 : Int} {f14 : Int} {f15 : Int} {f16 : Int} {f17 : Option Addr} (h : IsS29 w0 W g f0 f1 f2 f3 f4 f5 f6 f7 f8 f9 f10 f11 f12 f13 f14 f15 f16 f17) (x : Int) : IsS29 w0 (W.setCell ⟨g, 12, none⟩ (.int .i64 x)) g f0 f1 f2 f3 f4 f5 f6 f7 f8 f9 f10 f11 x f13 f14 f15 f16 f17 := by
  obtain ⟨A9, c9, A10, c10, hb, hg, hr9, hr10⟩ := h
  exact ⟨A9, c9, A10, c10, by simpa using blk_set hb 12 (.int .i64 x), hg, hr9, hr10⟩
theorem cellS29_13 {W : World} {g : Nat} {A9 : Option Addr} {c9 : Nat} {A10 : Option Addr} {c10 : Nat} {f0 : Int} {f1 : Int} {f2 : Bool} {f3 : Bool} {f4 : Int} {f5 : Int} {f6 : Int} {f7 : Int} {f8 : Int} {f9 : List Int} {f10 : List Int} {f11 : Int} {f12 : Int} {f13 : Int} {f14 : Int} {f15 : Int} {f16 : Int} {f17 : Option Addr} (h : W.heap[g]? = some (.cells #[.int .i64 f0, .int .i64 f1, .bool f2, .bool f3, .int .i64 f4, .int .i64 f5, .int .i64 f6, .int .u32 f7, .int .u32 f8, .slice A9 f9.length c9, .slice A10 f10.length c10, .int .i64 f11, .int .i64 f12, .int .i64 f13, .int .i64 f14, .int .i64 f15, .int .i64 f16, .pointer f17] 29 (0, 0))) : W.cell? ⟨g, 13, none⟩ = some (.int .i64 f13) := (blk_cell h 13).trans rfl
theorem IsS29.set_13 {w0 W : World} {g : Nat} {f0 : Int} {f1 : Int} {f2 : Bool} {f3 : Bool} {f4 : Int} {f5 : Int} {f6 : Int} {f7 : Int} {f8 : Int} {f9 : List Int} {f10 : List Int} {f11 : Int} {f12 : Int} {f13 : Int} {f14 : Int} {f15 : Int} {f16 : Int} {f17 : Option Addr} (h : IsS29 w0 W g f0 f1 f2 f3 f4 f5 f6 f7 f8 f9 f10 f11 f12 f13 f14 f15 f16 f17) (x : Int) : IsS29 w0 (W.setCell ⟨g, 13, none⟩ (.int .i64 x)) g f0 f1 f2 f3 f4 f5 f6 f7 f8 f9 f10 f11 f12 x f14 f15 f16 f17 := by
  obtain ⟨A9, c9, A10, c10, hb, hg, hr9, hr10⟩ := h
  exact ⟨A9, c9, A10, c10, by simpa using blk_set hb 13 (.int .i64 x), hg, hr9, hr10⟩
theorem cellS29_14 {W : World} {g : Nat} {A9 : Option Addr} {c9 : Nat} {A10 : Option Addr} {c10 : Nat} {f0 : Int} {f1 : Int} {f2 : Bool} {f3 : Bool} {f4 : Int} {f5 : Int} {f6 : Int} {f7 : Int} {f8 : Int} {f9 : List Int} {f10 : List Int} {f11 : Int} {f12 : Int} {f13 : Int} {f14 : Int} {f15 : Int} {f16 : Int} {f17 : Option Addr} (h : W.heap[g]? = some (.cells #[.int .i64 f0, .int .i64 f1, .bool f2, .bool f3, .int .i64 f4, .int .i64 f5, .int .i64 f6, .int .u32 f7, .int .u32 f8, .slice A9 f9.length c9, .slice A10 f10.length c10, .int .i64 f11, .int .i64 f12, .int .i64 f13, .int .i64 f14, .int .i64 f15, .int .i64 f16, .pointer f17] 29 (0, 0))) : W.cell? ⟨g, 14, none⟩ = some (.int .i64 f14) := (blk_cell h 14).trans rfl
theorem IsS29.set_14 {w0 W : World} {g : Nat} {f0 : Int} {f1 : Int} {f2 : Bool} {f3 : Bool} {f4 : Int} {f5 : Int} {f6 : Int} {f7 : Int} {f8 : Int} {f9 : List Int} {f10 : List Int} {f11 : Int} {f12 : Int} {f13 : Int} {f14 : Int} {f15 : Int} {f16 : Int} {f17 : Option Addr} (h : IsS29 w0 W g f0 f1 f2 f3 f4 f5 f6 f7 f8 f9 f10 f11 f12 f13 f14 f15 f16 f17) (x : Int) : IsS29 w0 (W.setCell ⟨g, 14, none⟩ (.int .i64 x)) g f0 f1 f2 f3 f4 f5 f6 f7 f8 f9 f10 f11 f12 f13 x f15 f16 f17 := by
  obtain ⟨A9, c9, A10, c10, hb, hg, hr9, hr10⟩ := h
  exact ⟨A9, c9, A10, c10, by simpa using blk_set hb 14 (.int .i64 x), hg, hr9, hr10⟩
theorem cellS29_15 {W : World} {g : Nat} {A9 : Option Addr} {c9 : Nat} {A10 : Option Addr} {c10 : Nat} {f0 : Int} {f1 : Int} {f2 : Bool} {f3 : Bool} {f4 : Int} {f5 : Int} {f6 : Int} {f7 : Int} {f8 : Int} {f9 : List Int} {f10 : List Int} {f11 : Int} {f12 : Int} {f13 : Int} {f14 : Int} {f15 : Int} {f16 : Int} {f17 : Option Addr} (h : W.heap[g]? = some (.cells #[.int .i64 f0, .int .i64 f1, .bool f2, .bool f3, .int .i64 f4, .int .i64 f5, .int .i64 f6, .int .u32 f7, .int .u32 f8, .slice A9 f9.length c9, .slice A10 f10.length c10, .int .i64 f11, .int .i64 f12, .int .i64 f13, .int .i64 f14, .int .i64 f15, .int .i64 f16, .pointer f17] 29 (0, 0))) : W.cell? ⟨g, 15, none⟩ = some (.int .i64 f15) := (blk_cell h 15).trans rfl
theorem IsS29.set_15 {w0 W : World} {g : Nat} {f0 : Int} {f1 : Int} {f2 : Bool} {f3 : Bool} {f4 : Int} {f5 : Int} {f6 : Int} {f7 : Int} {f8 : Int} {f9 : List Int} {f10 : List Int} {f11 : Int} {f12 : Int} {f13 : Int} {f14 : Int} {f15 : Int} {f16 : Int} {f17 : Option Addr} (h : IsS29 w0 W g f0 f1 f2 f3 f4 f5 f6 f7 f8 f9 f10 f11 f12 f13 f14 f15 f16 f17) (x : Int) : IsS29 w0 (W.setCell ⟨g, 15, none⟩ (.int .i64 x)) g f0 f1 f2 f3 f4 f5 f6 f7 f8 f9 f10 f11 f12 f13 f14 x f16 f17 := by
  obtain ⟨A9, c9, A10, c10, hb, hg, hr9, hr10⟩ := h
  exact ⟨A9, c9, A10, c10, by simpa using blk_set hb 15 (.int .i64 x), hg, hr9, hr10⟩
theorem cellS29_16 {W : World} {g : Nat} {A9 : Option Addr} {c9 : Nat} {A10 : Option Addr} {c10 : Nat} {f0 : Int} {f1 : Int} {f2 : Bool} {f3 : Bool} {f4 : Int} {f5 : Int} {f6 : Int} {f7 : Int} {f8 : Int} {f9 : List Int} {f10 : List Int} {f11 : Int} {f12 : Int} {f13 : Int} {f14 : Int} {f15 : Int} {f16 : Int} {f17 : Option Addr} (h : W.heap[g]? = some (.cells #[.int .i64 f0, .int .i64 f1, .bool f2, .bool f3, .int .i64 f4, .int .i64 f5, .int .i64 f6, .int .u32 f7, .int .u32 f8, .slice A9 f9.length c9, .slice A10 f10.length c10, .int .i64 f11, .int .i64 f12, .int .i64 f13, .int .i64 f14, .int .i64 f15, .int .i64 f16, .pointer f17] 29 (0, 0))) : W.cell? ⟨g, 16, none⟩ = some (.int .i64 f16) := (blk_cell h 16).trans rfl
theorem IsS29.set_16 {w0 W : World} {g : Nat} {f0 : Int} {f1 : Int} {f2 : Bool} {f3 : Bool} {f4 : Int} {f5 : Int} {f6 : Int} {f7 : Int} {f8 : Int} {f9 : List Int} {f10 : List Int} {f11 : Int} {f12 : Int} {f13 : Int} {f14 : Int} {f15 : Int} {f16 : Int} {f17 : Option Addr} (h : IsS29 w0 W g f0 f1 f2 f3 f4 f5 f6 f7 f8 f9 f10 f11 f12 f13 f14 f15 f16 f17) (x : Int) : IsS29 w0 (W.setCell ⟨g, 16, none⟩ (.int .i64 x)) g f0 f1 f2 f3 f4 f5 f6 f7 f8 f9 f10 f11 f12 f13 f14 f15 x f17 := by
  obtain ⟨A9, c9, A10, c10, hb, hg, hr9, hr10⟩ := h
  exact ⟨A9, c9, A10, c10, by simpa using blk_set hb 16 (.int .i64 x), hg, hr9, hr10⟩
theorem cellS29_17 {W : World} {g : Nat} {A9 : Option Addr} {c9 : Nat} {A10 : Option Addr} {c10 : Nat} {f0 : Int} {f1 : Int} {f2 : Bool} {f3 : Bool} {f4 : Int} {f5 : Int} {f6 : Int} {f7 : Int} {f8 : Int} {f9 : List Int} {f10 : List Int} {f11 : Int} {f12 : Int} {f13 : Int} {f14 : Int} {f15 : Int} {f16 : Int} {f17 : Option Addr} (h : W.heap[g]? = some (.cells #[.int .i64 f0, .int .i64 f1, .bool f2, .bool f3, .int .i64 f4, .int .i64 f5, .int .i64 f6, .int .u32 f7, .int .u32 f8, .slice A9 f9.length c9, .slice A10 f10.length c10, .int .i64 f11, .int .i64 f12, .int .i64 f13, .int .i64 f14, .int .i64 f15, .int .i64 f16, .pointer f17] 29 (0, 0))) : W.cell? ⟨g, 17, none⟩ = some (.pointer f17) := (blk_cell h 17).trans rfl
theorem IsS29.set_17 {w0 W : World} {g : Nat} {f0 : Int} {f1 : Int} {f2 : Bool} {f3 : Bool} {f4 : Int} {f5 : Int} {f6 : Int} {f7 : Int} {f8 : Int} {f9 : List Int} {f10 : List Int} {f11 : Int} {f12 : Int} {f13 : Int} {f14 : Int} {f15 : Int} {f16 : Int} {f17 : Option Addr} (h : IsS29 w0 W g f0 f1 f2 f3 f4 f5 f6 f7 f8 f9 f10 f11 f12 f13 f14 f15 f16 f17) (x : Option Addr) : IsS29 w0 (W.setCell ⟨g, 17, none⟩ (.pointer x)) g f0 f1 f2 f3 f4 f5 f6 f7 f8 f9 f10 f11 f12 f13 f14 f15 f16 x := by
  obtain ⟨A9, c9, A10, c10, hb, hg, hr9, hr10⟩ := h
  exact ⟨A9, c9, A10, c10, by simpa using blk_set hb 17 (.pointer x), hg, hr9, hr10⟩
theorem IsS29.new (w0 W : World) (A9 : Option Addr) (c9 : Nat) (A10 : Option Addr) (c10 : Nat) (f0 : Int) (f1 : Int) (f2 : Bool) (f3 : Bool) (f4 : Int) (f5 : Int) (f6 : Int) (f7 : Int) (f8 : Int) (f9 : List Int) (f10 : List Int) (f11 : Int) (f12 : Int) (f13 : Int) (f14 : Int) (f15 : Int) (f16 : Int) (f17 : Option Addr) (hB : Below w0.heap.size w0 W) (hr9 : Kd.C (Kd.int .u8) w0 A9 f9.length f9) (hr10 : Kd.C (Kd.int .u8) w0 A10 f10.length f10) : IsS29 w0 (W.alloc (.cells #[.int .i64 f0, .int .i64 f1, .bool f2, .bool f3, .int .i64 f4, .int .i64 f5, .int .i64 f6, .int .u32 f7, .int .u32 f8, .slice A9 f9.length c9, .slice A10 f10.length c10, .int .i64 f11, .int .i64 f12, .int .i64 f13, .int .i64 f14, .int .i64 f15, .int .i64 f16, .pointer f17] 29)) W.heap.size f0 f1 f2 f3 f4 f5 f6 f7 f8 f9 f10 f11 f12 f13 f14 f15 f16 f17 := ⟨A9, c9, A10, c10, by simpa using heap_alloc_new W _, hB.size, hr9, hr10⟩

/-! ### pack_short: function 84 -/
def pack_short.f (s0_0 : Int) (s0_1 : Int) (s0_2 : Bool) (s0_3 : Bool) (s0_4 : Int) (s0_5 : Int) (s0_6 : Int) (s0_7 : Int) (s0_8 : Int) (s0_9 : List Int) (s0_10 : List Int) (s0_11 : Int) (s0_12 : Int) (s0_13 : Int) (s0_14 : Int) (s0_15 : Int) (s0_16 : Int) (s0_17 : Option Addr) : Option (Int × Int × Int × Bool × Bool × Int × Int × Int × Int × Int × Int × Int × Int × Int × Int × Int × Option Addr) := if (s0_10.length : Int) < 8 then (some (3, s0_0, s0_1, s0_2, s0_3, s0_4, s0_5, s0_6, s0_7, s0_8, s0_11, s0_12, s0_13, s0_14, s0_15, s0_16, s0_17)) else (some (0, s0_0, s0_1, s0_2, s0_3, s0_4, s0_5, s0_6, s0_7, s0_8, s0_11, s0_12, s0_13, s0_14, s0_15, s0_16, s0_17))
set_option maxHeartbeats 8000000 in
set_option maxRecDepth 100000 in
theorem pack_short.calls (g : Nat) (s0_0 : Int) (s0_1 : Int) (s0_2 : Bool) (s0_3 : Bool) (s0_4 : Int) (s0_5 : Int) (s0_6 : Int) (s0_7 : Int) (s0_8 : Int) (s0_9 : List Int) (s0_10 : List Int) (s0_11 : Int) (s0_12 : Int) (s0_13 : Int) (s0_14 : Int) (s0_15 : Int) (s0_16 : Int) (s0_17 : Option Addr) (r1 : Int) (r2 : Int) (r3 : Int) (r4 : Bool) (r5 : Bool) (r6 : Int) (r7 : Int) (r8 : Int) (r9 : Int) (r10 : Int) (r11 : Int) (r12 : Int) (r13 : Int) (r14 : Int) (r15 : Int) (r16 : Int) (r17 : Option Addr) (w0 w : World) (hI : IsS29 w0 w g s0_0 s0_1 s0_2 s0_3 s0_4 s0_5 s0_6 s0_7 s0_8 s0_9 s0_10 s0_11 s0_12 s0_13 s0_14 s0_15 s0_16 s0_17) (hB : Below w0.heap.size w0 w) (h : pack_short.f s0_0 s0_1 s0_2 s0_3 s0_4 s0_5 s0_6 s0_7 s0_8 s0_9 s0_10 s0_11 s0_12 s0_13 s0_14 s0_15 s0_16 s0_17 = some (r1, r2, r3, r4, r5, r6, r7, r8, r9, r10, r11, r12, r13, r14, r15, r16, r17)) :
    Calls Try.prog 84 #[.pointer (some ⟨g, 0, none⟩)] w fun e w' => e = .returned (.int .i64 r1) ∧ IsS29 w0 w' g r2 r3 r4 r5 r6 r7 r8 r9 r10 s0_9 s0_10 r11 r12 r13 r14 r15 r16 r17 ∧ Below w0.heap.size w0 w' ∧ KeepBut w w' g none := by
  have HI0 := Aside0.mk hI
  have HK := Aside0.mk (KeepBut.refl w g none)
  have HL := Aside0.mk hB.size
  clear hI
  have HW0 := Aside0.mk hB.size
  have HB := Aside0.mk hB
  clear hB
  have H : (if (s0_10.length : Int) < 8 then (some (3, s0_0, s0_1, s0_2, s0_3, s0_4, s0_5, s0_6, s0_7, s0_8, s0_11, s0_12, s0_13, s0_14, s0_15, s0_16, s0_17)) else (some (0, s0_0, s0_1, s0_2, s0_3, s0_4, s0_5, s0_6, s0_7, s0_8, s0_11, s0_12, s0_13, s0_14, s0_15, s0_16, s0_17))) = some (r1, r2, r3, r4, r5, r6, r7, r8, r9, r10, r11, r12, r13, r14, r15, r16, r17) := h
  clear h
  by_cases c2 : (s0_10.length : Int) < 8
  · rw [if_pos c2] at H
    have c2b0 : decide ((s0_10.length : Int) < 8) = true := decide_eq_true c2
    have c2b1 : decide (s0_10.length < 8) = true := decide_eq_true (by omega)
    clear c2
    simp only [Option.some.injEq, Prod.mk.injEq] at H
    obtain ⟨rfl, rfl, rfl, rfl, rfl, rfl, rfl, rfl, rfl, rfl, rfl, rfl, rfl, rfl, rfl, rfl, rfl⟩ := H
    obtain ⟨ASz3_9, cSz3_9, ASz3_10, cSz3_10, HGz3, hgz3, HSz3_9, HSz3_10⟩ := HI0.out
    have hcz3_0 := cellS29_0 HGz3
    have hcz3_1 := cellS29_1 HGz3
    have hcz3_2 := cellS29_2 HGz3
    have hcz3_3 := cellS29_3 HGz3
    have hcz3_4 := cellS29_4 HGz3
    have hcz3_5 := cellS29_5 HGz3
    have hcz3_6 := cellS29_6 HGz3
    have hcz3_7 := cellS29_7 HGz3
    have hcz3_8 := cellS29_8 HGz3
    have hcz3_9 := cellS29_9 HGz3
    have hcz3_10 := cellS29_10 HGz3
    have hcz3_11 := cellS29_11 HGz3
    have hcz3_12 := cellS29_12 HGz3
    have hcz3_13 := cellS29_13 HGz3
    have hcz3_14 := cellS29_14 HGz3
    have hcz3_15 := cellS29_15 HGz3
    have hcz3_16 := cellS29_16 HGz3
    have hcz3_17 := cellS29_17 HGz3
    have hfz3_0 := blk_frozen HGz3 0
    have hfz3_1 := blk_frozen HGz3 1
    have hfz3_2 := blk_frozen HGz3 2
    have hfz3_3 := blk_frozen HGz3 3
    have hfz3_4 := blk_frozen HGz3 4
    have hfz3_5 := blk_frozen HGz3 5
    have hfz3_6 := blk_frozen HGz3 6
    have hfz3_7 := blk_frozen HGz3 7
    have hfz3_8 := blk_frozen HGz3 8
    have hfz3_11 := blk_frozen HGz3 11
    have hfz3_12 := blk_frozen HGz3 12
    have hfz3_13 := blk_frozen HGz3 13
    have hfz3_14 := blk_frozen HGz3 14
    have hfz3_15 := blk_frozen HGz3 15
    have hfz3_16 := blk_frozen HGz3 16
    have hfz3_17 := blk_frozen HGz3 17
    clear HGz3 hgz3
    go_enter Try.func84, Try.ntmps84
    go_wp2
    go_ret
    exact ⟨by first | rfl | (simp [errW_none, errW_some] <;> rfl) | (simp [*, errW_none, errW_some] <;> rfl), by repeat (first | (with_reducible first | exact HI0.out | apply IsS29.alloc | apply IsS29.drewN | apply IsS29.drew | apply IsS29.set_0 | apply IsS29.set_1 | apply IsS29.set_2 | apply IsS29.set_3 | apply IsS29.set_4 | apply IsS29.set_5 | apply IsS29.set_6 | apply IsS29.set_7 | apply IsS29.set_8 | apply IsS29.set_11 | apply IsS29.set_12 | apply IsS29.set_13 | apply IsS29.set_14 | apply IsS29.set_15 | apply IsS29.set_16 | apply IsS29.set_17) | exact HI0.out), by repeat (first | (with_reducible first | exact HB.out | apply below_alloc | apply pw_below_drewN | apply below_drew1 | refine below_set ?_ (IsS29.ge HI0.out)) | exact HB.out), by repeat (first | (with_reducible first | exact HK.out | apply KeepBut.set_ | apply keep_drewN | apply keep_drew | apply keep_alloc) | exact HK.out)⟩
  · rw [if_neg c2] at H
    have c2b0 : decide ((s0_10.length : Int) < 8) = false := decide_eq_false c2
    have c2b1 : decide (s0_10.length < 8) = false := decide_eq_false (by omega)
    clear c2
    simp only [Option.some.injEq, Prod.mk.injEq] at H
    obtain ⟨rfl, rfl, rfl, rfl, rfl, rfl, rfl, rfl, rfl, rfl, rfl, rfl, rfl, rfl, rfl, rfl, rfl⟩ := H
    obtain ⟨ASz4_9, cSz4_9, ASz4_10, cSz4_10, HGz4, hgz4, HSz4_9, HSz4_10⟩ := HI0.out
    have hcz4_0 := cellS29_0 HGz4
    have hcz4_1 := cellS29_1 HGz4
    have hcz4_2 := cellS29_2 HGz4
    have hcz4_3 := cellS29_3 HGz4
    have hcz4_4 := cellS29_4 HGz4
    have hcz4_5 := cellS29_5 HGz4
    have hcz4_6 := cellS29_6 HGz4
    have hcz4_7 := cellS29_7 HGz4
    have hcz4_8 := cellS29_8 HGz4
    have hcz4_9 := cellS29_9 HGz4
    have hcz4_10 := cellS29_10 HGz4
    have hcz4_11 := cellS29_11 HGz4
    have hcz4_12 := cellS29_12 HGz4
    have hcz4_13 := cellS29_13 HGz4
    have hcz4_14 := cellS29_14 HGz4
    have hcz4_15 := cellS29_15 HGz4
    have hcz4_16 := cellS29_16 HGz4
    have hcz4_17 := cellS29_17 HGz4
    have hfz4_0 := blk_frozen HGz4 0
    have hfz4_1 := blk_frozen HGz4 1
    have hfz4_2 := blk_frozen HGz4 2
    have hfz4_3 := blk_frozen HGz4 3
    have hfz4_4 := blk_frozen HGz4 4
    have hfz4_5 := blk_frozen HGz4 5
    have hfz4_6 := blk_frozen HGz4 6
    have hfz4_7 := blk_frozen HGz4 7
    have hfz4_8 := blk_frozen HGz4 8
    have hfz4_11 := blk_frozen HGz4 11
    have hfz4_12 := blk_frozen HGz4 12
    have hfz4_13 := blk_frozen HGz4 13
    have hfz4_14 := blk_frozen HGz4 14
    have hfz4_15 := blk_frozen HGz4 15
    have hfz4_16 := blk_frozen HGz4 16
    have hfz4_17 := blk_frozen HGz4 17
    clear HGz4 hgz4
    go_enter Try.func84, Try.ntmps84
    go_wp2
    go_ret
    exact ⟨by first | rfl | (simp [errW_none, errW_some] <;> rfl) | (simp [*, errW_none, errW_some] <;> rfl), by repeat (first | (with_reducible first | exact HI0.out | apply IsS29.alloc | apply IsS29.drewN | apply IsS29.drew | apply IsS29.set_0 | apply IsS29.set_1 | apply IsS29.set_2 | apply IsS29.set_3 | apply IsS29.set_4 | apply IsS29.set_5 | apply IsS29.set_6 | apply IsS29.set_7 | apply IsS29.set_8 | apply IsS29.set_11 | apply IsS29.set_12 | apply IsS29.set_13 | apply IsS29.set_14 | apply IsS29.set_15 | apply IsS29.set_16 | apply IsS29.set_17) | exact HI0.out), by repeat (first | (with_reducible first | exact HB.out | apply below_alloc | apply pw_below_drewN | apply below_drew1 | refine below_set ?_ (IsS29.ge HI0.out)) | exact HB.out), by repeat (first | (with_reducible first | exact HK.out | apply KeepBut.set_ | apply keep_drewN | apply keep_drew | apply keep_alloc) | exact HK.out)⟩

/-! ### pack_ports: function 85 -/
def pack_ports.f (l0 : List Int) : Option (Int × Int) := (word_Get16.f l0 0).bind fun t350 => ((word_Get16.f l0 2).bind fun t351 => (some (t350, t351)))
set_option maxHeartbeats 8000000 in
set_option maxRecDepth 100000 in
theorem pack_ports.calls (A0 : Option Addr) (c0 : Nat) (l0 : List Int) (r1 : Int) (r2 : Int) (w : World) (hr0 : Kd.C (Kd.int .u8) w A0 l0.length l0) (hc0 : l0.length ≤ c0) (h : pack_ports.f l0 = some (r1, r2)) :
    Calls Try.prog 85 #[.slice A0 l0.length c0] w fun e w' => e = .returned (.tuple #[.int .i64 r1, .int .i64 r2]) ∧ Drawn0 w w' := by
  have HR0 := Aside0.mk hr0
  have HC0 := Aside0.mk hc0
  clear hr0 hc0
  have H : ((word_Get16.f l0 0).bind fun t350 => ((word_Get16.f l0 2).bind fun t351 => (some (t350, t351)))) = some (r1, r2) := h
  clear h
  replace H := Option.bind_eq_some_iff.mp H
  obtain ⟨t350, A20, H⟩ := H
  replace H : ((word_Get16.f l0 2).bind fun t351 => (some (t350, t351))) = some (r1, r2) := H
  have A2 := Aside0.mk A20
  clear A20
  replace H := Option.bind_eq_some_iff.mp H
  obtain ⟨t351, A30, H⟩ := H
  replace H : (some (t350, t351)) = some (r1, r2) := H
  have A3 := Aside0.mk A30
  clear A30
  simp only [Option.some.injEq, Prod.mk.injEq] at H
  obtain ⟨rfl, rfl⟩ := H
  go_enter Try.func85, Try.ntmps85
  go_wp2_with (first | ((with_reducible refine gate_callee (f := 49) rfl ?_); refine goesL_ (some 5) rfl rfl Try.func49 (by kernel_rfl) rfl #[.slice A0 l0.length c0, .int .i64 0] rfl (by (try simp only [List.map_toArray, List.map_cons, List.map_nil]); first | done | rfl | (simp only [List.length_drop, List.length_take]; rfl)) ?_; (with_reducible refine (word_Get16.calls _ _ l0 0 t350 _ ?side1 ?side2 A2.out).mono ?_); (case side1 => repeat (first | exact HR0.out | (with_reducible refine Kd.C_alloc ?_ _) | (with_reducible refine Kd.C_drewN ?_ _) | (with_reducible refine Kd.C_drew ?_))); (case side2 => exact HC0.out); rintro e w' ⟨rfl, ⟨nd, rfl⟩⟩; refine ⟨_, rfl, ?_⟩) | ((with_reducible refine gate_callee (f := 49) rfl ?_); refine goesL_ (some 7) rfl rfl Try.func49 (by kernel_rfl) rfl #[.slice A0 l0.length c0, .int .i64 2] rfl (by (try simp only [List.map_toArray, List.map_cons, List.map_nil]); first | done | rfl | (simp only [List.length_drop, List.length_take]; rfl)) ?_; (with_reducible refine (word_Get16.calls _ _ l0 2 t351 _ ?side1 ?side2 A3.out).mono ?_); (case side1 => repeat (first | exact HR0.out | (with_reducible refine Kd.C_alloc ?_ _) | (with_reducible refine Kd.C_drewN ?_ _) | (with_reducible refine Kd.C_drew ?_))); (case side2 => exact HC0.out); rintro e w' ⟨rfl, ⟨nd, rfl⟩⟩; refine ⟨_, rfl, ?_⟩))
  go_ret2
  exact ⟨by first | rfl | (simp; done) | (simp [*]; done), by repeat (first | exact Drawn0.refl _ | apply Drawn0.step)⟩

-- NOT PRINTED: function 62 (pack_ofUDP)

/-! ### icmp_Bad: function 39 -/
def icmp_Bad.f (a0 : Int) : Option (Bool) := if a0 = 3 then (some true) else (if a0 = 4 then (some true) else (if a0 = 5 then (some true) else (if a0 = 11 then (some true) else (if a0 = 12 then (some true) else (some false)))))
set_option maxHeartbeats 8000000 in
set_option maxRecDepth 100000 in
theorem icmp_Bad.calls (a0 : Int) (r : Bool) (w : World) (h : icmp_Bad.f a0 = some r) :
    Calls Try.prog 39 #[.int .i64 a0] w fun e w' => e = .returned (.bool r) ∧ Drawn0 w w' := by
  have H : (if a0 = 3 then (some true) else (if a0 = 4 then (some true) else (if a0 = 5 then (some true) else (if a0 = 11 then (some true) else (if a0 = 12 then (some true) else (some false)))))) = some r := h
  clear h
  by_cases c2 : a0 = 3
  · rw [if_pos c2] at H
    have c2b0 : (a0 == 3) = true := beq_iff_eq.mpr c2
    have c2b1 : (a0 != 3) = false := bne_eq_false_iff_eq.mpr c2
    clear c2
    obtain rfl := Option.some.inj H
    go_enter Try.func39, Try.ntmps39
    go_wp2
    go_ret
    exact ⟨by first | rfl | (simp; done) | (simp [*]; done), by repeat (first | exact Drawn0.refl _ | apply Drawn0.step)⟩
  · rw [if_neg c2] at H
    have c2b0 : (a0 == 3) = false := beq_eq_false_iff_ne.mpr c2
    have c2b1 : (a0 != 3) = true := bne_iff_ne.mpr c2
    by_cases c3 : a0 = 4
    · rw [if_pos c3] at H
      have c3b0 : (a0 == 4) = true := beq_iff_eq.mpr c3
      have c3b1 : (a0 != 4) = false := bne_eq_false_iff_eq.mpr c3
      clear c3
      obtain rfl := Option.some.inj H
      go_enter Try.func39, Try.ntmps39
      go_wp2
      go_ret
      exact ⟨by first | rfl | (simp; done) | (simp [*]; done), by repeat (first | exact Drawn0.refl _ | apply Drawn0.step)⟩
    · rw [if_neg c3] at H
      have c3b0 : (a0 == 4) = false := beq_eq_false_iff_ne.mpr c3
      have c3b1 : (a0 != 4) = true := bne_iff_ne.mpr c3
      by_cases c4 : a0 = 5
      · rw [if_pos c4] at H
        have c4b0 : (a0 == 5) = true := beq_iff_eq.mpr c4
        have c4b1 : (a0 != 5) = false := bne_eq_false_iff_eq.mpr c4
        clear c4
        obtain rfl := Option.some.inj H
        go_enter Try.func39, Try.ntmps39
        go_wp2
        go_ret
        exact ⟨by first | rfl | (simp; done) | (simp [*]; done), by repeat (first | exact Drawn0.refl _ | apply Drawn0.step)⟩
      · rw [if_neg c4] at H
        have c4b0 : (a0 == 5) = false := beq_eq_false_iff_ne.mpr c4
        have c4b1 : (a0 != 5) = true := bne_iff_ne.mpr c4
        by_cases c5 : a0 = 11
        · rw [if_pos c5] at H
          have c5b0 : (a0 == 11) = true := beq_iff_eq.mpr c5
          have c5b1 : (a0 != 11) = false := bne_eq_false_iff_eq.mpr c5
          clear c5
          obtain rfl := Option.some.inj H
          go_enter Try.func39, Try.ntmps39
          go_wp2
          go_ret
          exact ⟨by first | rfl | (simp; done) | (simp [*]; done), by repeat (first | exact Drawn0.refl _ | apply Drawn0.step)⟩
        · rw [if_neg c5] at H
          have c5b0 : (a0 == 11) = false := beq_eq_false_iff_ne.mpr c5
          have c5b1 : (a0 != 11) = true := bne_iff_ne.mpr c5
          by_cases c6 : a0 = 12
          · rw [if_pos c6] at H
            have c6b0 : (a0 == 12) = true := beq_iff_eq.mpr c6
            have c6b1 : (a0 != 12) = false := bne_eq_false_iff_eq.mpr c6
            clear c6
            obtain rfl := Option.some.inj H
            go_enter Try.func39, Try.ntmps39
            go_wp2
            go_ret
            exact ⟨by first | rfl | (simp; done) | (simp [*]; done), by repeat (first | exact Drawn0.refl _ | apply Drawn0.step)⟩
          · rw [if_neg c6] at H
            have c6b0 : (a0 == 12) = false := beq_eq_false_iff_ne.mpr c6
            have c6b1 : (a0 != 12) = true := bne_iff_ne.mpr c6
            obtain rfl := Option.some.inj H
            go_enter Try.func39, Try.ntmps39
            go_wp2
            go_ret
            exact ⟨by first | rfl | (simp; done) | (simp [*]; done), by repeat (first | exact Drawn0.refl _ | apply Drawn0.step)⟩

/-! ### icmp_Parse: function 86 -/
def icmp_Parse.f (k : Nat) (l0 : List Int) : Option (Int × Int × Int × List Int × Int) := if (l0.length : Int) < 8 then (some (0, 0, 0, ([] : List Int), 3)) else ((sum_Right.f k l0).bind fun t381 => (if t381 = true then (if 0 < (l0.length : Int) then (if 1 < (l0.length : Int) then ((word_Get32.f k l0 4).bind fun t384 => (if 8 ≤ (l0.length : Int) then ((bytes_Clone.f (l0.drop 8)).bind fun t386 => (some (wrap64 (rd l0 0), wrap64 (rd l0 1), t384, t386, 0))) else (none))) else (none)) else (none)) else (some (0, 0, 0, ([] : List Int), 4))))
theorem icmp_Parse.mono : ∀ a0 k, LeO (icmp_Parse.f k a0) (icmp_Parse.f (k + 1) a0) := by
  intro a0 k
  unfold icmp_Parse.f
  repeat' first
      | (with_reducible exact sum_Right.mono _ _)
      | (with_reducible exact word_Get32.mono _ _ _)
      | (with_reducible exact LeO.refl _)
      | (with_reducible exact LeO.none _)
      | (with_reducible refine LeO.ite ?_ ?_)
      | (with_reducible refine LeO.bind ?_ (fun _ => ?_))
      | exact sum_Right.mono _ _
      | exact word_Get32.mono _ _ _
      | exact LeO.none _
      | refine LeO.ite ?_ ?_
      | refine LeO.bind ?_ (fun _ => ?_)
def icmp_Parse.T5 : Bool × List (List Nat × List Nat) := (true, [([], []), ([0], [0]), ([1], [1]), ([2], [2]), ([], []), ([4], [4]), ([5], [5]), ([6], [6]), ([], []), ([8], [8]), ([], []), ([10], [10]), ([11, 9], [11]), ([3, 7, 9, 12], [3, 7, 9, 12]), ([13, 12, 0, 1, 2, 3, 4, 5, 6, 7, 8, 9, 10, 11, 12, 13], [13]), ([14, 0, 1, 2, 3, 4, 5, 6, 7, 8, 9, 10, 11, 12, 13, 14], [])])
def icmp_Parse.B5 : List Nat := [0, 1, 3, 7, 0, 16, 48, 112, 0, 256, 0, 1024, 3840, 8191, 16383, 32767]
theorem icmp_Parse.tab5 : rtab .any (opsOf Try.f86 5) = icmp_Parse.T5 := by kernel_rfl
theorem icmp_Parse.bits5 : waitsOk icmp_Parse.T5.2 icmp_Parse.B5 = true := by kernel_rfl
set_option maxHeartbeats 8000000 in
set_option maxRecDepth 100000 in
theorem icmp_Parse.calls (k : Nat) (A0 : Option Addr) (c0 : Nat) (l0 : List Int) (r1 : Int) (r2 : Int) (r3 : Int) (r4 : List Int) (r5 : Int) (w : World) (hr0 : Kd.C (Kd.int .u8) w A0 l0.length l0) (hc0 : l0.length ≤ c0) (h : icmp_Parse.f k l0 = some (r1, r2, r3, r4, r5)) :
    Calls Try.prog 86 #[.slice A0 l0.length c0] w fun e w' => ∃ v3_ : Value, e = .returned (.tuple #[.agg #[.int .i64 r1, .int .i64 r2, .int .u32 r3, v3_], .int .i64 r5]) ∧ Kd.R (Kd.int .u8) 5 w' w.heap.size (fun _ => True) v3_ r4 ∧ Below w.heap.size w w' := by
  have hu50 := Try.underlying50
  have HR0 := Aside0.mk hr0
  have HC0 := Aside0.mk hc0
  clear hr0 hc0
  have HB := Aside0.mk (Below.refl w.heap.size w)
  have H : (if (l0.length : Int) < 8 then (some (0, 0, 0, ([] : List Int), 3)) else ((sum_Right.f k l0).bind fun t381 => (if t381 = true then (if 0 < (l0.length : Int) then (if 1 < (l0.length : Int) then ((word_Get32.f k l0 4).bind fun t384 => (if 8 ≤ (l0.length : Int) then ((bytes_Clone.f (l0.drop 8)).bind fun t386 => (some (wrap64 (rd l0 0), wrap64 (rd l0 1), t384, t386, 0))) else (none))) else (none)) else (none)) else (some (0, 0, 0, ([] : List Int), 4))))) = some (r1, r2, r3, r4, r5) := h
  clear h
  by_cases c2 : (l0.length : Int) < 8
  · rw [if_pos c2] at H
    have c2b0 : decide ((l0.length : Int) < 8) = true := decide_eq_true c2
    have c2b1 : decide (l0.length < 8) = true := decide_eq_true (by omega)
    clear c2
    simp only [Option.some.injEq, Prod.mk.injEq] at H
    obtain ⟨rfl, rfl, rfl, rfl, rfl⟩ := H
    go_enter Try.func86, Try.ntmps86
    go_wp2_with (first | ((with_reducible refine gate_dst (N := 2) rfl ?_); refine box_event ?hg (N := 2) ?hd (cs := #[.int .i64 0, .int .i64 0, .int .u32 0, .slice none 0 0]) (t := 50) ?hr ?_; (case hd => rfl); (case hg => rfl); (case hr => first | (go_simp; done) | (go_simp; rfl)); intro gb380 hg w3 hbox hb; have n0_ := Aside0.mk (below_step (by repeat (first | (with_reducible first | exact HB.out | apply below_alloc | apply pw_below_drewN | apply below_drew1) | exact HB.out)) hb); have n1_ := Aside0.mk (hbox); have n2_ := Aside0.mk ((by rw [hg]; exact (below_size (by repeat (first | (with_reducible first | exact HB.out | apply below_alloc | apply pw_below_drewN | apply below_drew1) | exact HB.out))) : w.heap.size ≤ gb380)); have n3_ := Aside0.mk ((by rw [hg]; exact (below_size (by repeat (first | (with_reducible first | exact HB.out | apply below_alloc | apply pw_below_drewN | apply below_drew1) | exact HB.out))) : w.heap.size ≤ gb380)); clear HB; have HB := n0_; have BK380 := n1_; have GW380 := n2_; have GE380 := n3_; clear n0_ n1_ n2_ n3_; clear hb hbox hg; have hcz4_0 : w3.cell? ⟨gb380, 0, none⟩ = some (.int .i64 0) := (blk_cell BK380.out 0).trans rfl; have hcz4_1 : w3.cell? ⟨gb380, 1, none⟩ = some (.int .i64 0) := (blk_cell BK380.out 1).trans rfl; have hcz4_2 : w3.cell? ⟨gb380, 2, none⟩ = some (.int .u32 0) := (blk_cell BK380.out 2).trans rfl; have hcz4_3 : w3.cell? ⟨gb380, 3, none⟩ = some (.slice none 0 0) := (blk_cell BK380.out 3).trans rfl; have hfz4_0 := blk_frozen BK380.out 0; have hfz4_1 := blk_frozen BK380.out 1; have hfz4_2 := blk_frozen BK380.out 2; have hfz4_3 := blk_frozen BK380.out 3))
    refine bodyPost_ret (results_ct rfl _ _ gb380 50 #[.int .i64 0, .int .i64 0, .int .u32 0, .slice none 0 0] (0, 0) _ rfl (by (with_reducible repeat (first | refine blk_drewN ?_ _ | refine blk_drew ?_ | refine blk_alloc ?_ _)); refine blk_put (cs := #[.int .i64 0, .int .i64 0, .int .u32 0, .slice none 0 0]) ?_ 3 _ rfl; (with_reducible repeat (first | refine blk_drewN ?_ _ | refine blk_drew ?_ | refine blk_alloc ?_ _)); refine blk_put (cs := #[.int .i64 0, .int .i64 0, .int .u32 0, .slice none 0 0]) ?_ 2 _ rfl; (with_reducible repeat (first | refine blk_drewN ?_ _ | refine blk_drew ?_ | refine blk_alloc ?_ _)); refine blk_put (cs := #[.int .i64 0, .int .i64 0, .int .u32 0, .slice none 0 0]) ?_ 1 _ rfl; (with_reducible repeat (first | refine blk_drewN ?_ _ | refine blk_drew ?_ | refine blk_alloc ?_ _)); refine blk_put (cs := #[.int .i64 0, .int .i64 0, .int .u32 0, .slice none 0 0]) ?_ 0 _ rfl; (with_reducible repeat (first | refine blk_drewN ?_ _ | refine blk_drew ?_ | refine blk_alloc ?_ _)); exact BK380.out) Try.underlying50 rfl (by kernel_rfl)) rfl ?_
    exact ⟨_, by first | rfl | (simp [errW_none, errW_some] <;> rfl) | (simp [*, errW_none, errW_some] <;> rfl), by first | exact Kd.R_nil _ _ _ _ _ | exact Kd.N_nil _ _ _ _ _ | exact Kd.V_nil _ _ _ _ _ | exact Kd.Q_nil _ _ _ _ _ | exact Kd.S_nil _ _ _ _ _, by repeat (first | (with_reducible first | exact HB.out | apply below_alloc | apply pw_below_drewN | apply below_drew1 | refine below_set ?_ GE380.out) | exact HB.out)⟩
  · rw [if_neg c2] at H
    have c2b0 : decide ((l0.length : Int) < 8) = false := decide_eq_false c2
    have c2b1 : decide (l0.length < 8) = false := decide_eq_false (by omega)
    clear c2
    replace H := Option.bind_eq_some_iff.mp H
    obtain ⟨t381, A50, H⟩ := H
    replace H : (if t381 = true then (if 0 < (l0.length : Int) then (if 1 < (l0.length : Int) then ((word_Get32.f k l0 4).bind fun t384 => (if 8 ≤ (l0.length : Int) then ((bytes_Clone.f (l0.drop 8)).bind fun t386 => (some (wrap64 (rd l0 0), wrap64 (rd l0 1), t384, t386, 0))) else (none))) else (none)) else (none)) else (some (0, 0, 0, ([] : List Int), 4))) = some (r1, r2, r3, r4, r5) := H
    have A5 := Aside0.mk A50
    clear A50
    by_cases c6 : t381 = true
    · subst c6
      have H1 : (if 0 < (l0.length : Int) then (if 1 < (l0.length : Int) then ((word_Get32.f k l0 4).bind fun t384 => (if 8 ≤ (l0.length : Int) then ((bytes_Clone.f (l0.drop 8)).bind fun t386 => (some (wrap64 (rd l0 0), wrap64 (rd l0 1), t384, t386, 0))) else (none))) else (none)) else (none)) = some (r1, r2, r3, r4, r5) := by rw [if_pos rfl] at H; exact H
      clear H
      have H := H1
      clear H1
      by_cases c7 : 0 < (l0.length : Int)
      · rw [if_pos c7] at H
        have c7b0 : decide (0 < (l0.length : Int)) = true := decide_eq_true c7
        have c7b1 : decide (0 < l0.length) = true := decide_eq_true (by omega)
        clear c7
        by_cases c8 : 1 < (l0.length : Int)
        · rw [if_pos c8] at H
          have c8b0 : decide (1 < (l0.length : Int)) = true := decide_eq_true c8
          have c8b1 : decide (1 < l0.length) = true := decide_eq_true (by omega)
          clear c8
          replace H := Option.bind_eq_some_iff.mp H
          obtain ⟨t384, A90, H⟩ := H
          replace H : (if 8 ≤ (l0.length : Int) then ((bytes_Clone.f (l0.drop 8)).bind fun t386 => (some (wrap64 (rd l0 0), wrap64 (rd l0 1), t384, t386, 0))) else (none)) = some (r1, r2, r3, r4, r5) := H
          have A9 := Aside0.mk A90
          clear A90
          by_cases c10 : 8 ≤ (l0.length : Int)
          · rw [if_pos c10] at H
            have c10b0 := eq_true c10
            have c10b1 : decide (8 ≤ (l0.length : Int)) = true := decide_eq_true c10
            clear c10
            replace H := Option.bind_eq_some_iff.mp H
            obtain ⟨t386, A110, H⟩ := H
            replace H : (some (wrap64 (rd l0 0), wrap64 (rd l0 1), t384, t386, 0)) = some (r1, r2, r3, r4, r5) := H
            have A11 := Aside0.mk A110
            clear A110
            simp only [Option.some.injEq, Prod.mk.injEq] at H
            obtain ⟨rfl, rfl, rfl, rfl, rfl⟩ := H
            go_enter Try.func86, Try.ntmps86
            try go_wp2_with (first | ((with_reducible refine gate_dst (N := 2) rfl ?_); refine box_event ?hg (N := 2) ?hd (cs := #[.int .i64 0, .int .i64 0, .int .u32 0, .slice none 0 0]) (t := 50) ?hr ?_; (case hd => rfl); (case hg => rfl); (case hr => first | (go_simp; done) | (go_simp; rfl)); intro gb380 hg w12 hbox hb; have n0_ := Aside0.mk (below_step (by repeat (first | (with_reducible first | exact HB.out | apply below_alloc | apply pw_below_drewN | apply below_drew1) | exact HB.out)) hb); have n1_ := Aside0.mk (hbox); have n2_ := Aside0.mk ((by rw [hg]; exact (below_size (by repeat (first | (with_reducible first | exact HB.out | apply below_alloc | apply pw_below_drewN | apply below_drew1) | exact HB.out))) : w.heap.size ≤ gb380)); have n3_ := Aside0.mk ((by rw [hg]; exact (below_size (by repeat (first | (with_reducible first | exact HB.out | apply below_alloc | apply pw_below_drewN | apply below_drew1) | exact HB.out))) : w.heap.size ≤ gb380)); clear HB; have HB := n0_; have BK380 := n1_; have GW380 := n2_; have GE380 := n3_; clear n0_ n1_ n2_ n3_; clear hb hbox hg) | ((with_reducible refine gate_callee (f := 90) rfl ?_); refine goesL_ (some 11) rfl rfl Try.func90 (by kernel_rfl) rfl #[.slice A0 l0.length c0] rfl (by (try simp only [List.map_toArray, List.map_cons, List.map_nil]); first | done | rfl | (simp only [List.length_drop, List.length_take]; rfl)) ?_; (with_reducible refine (sum_Right.calls k (fun k_ => k_ < w.heap.size) _ _ l0 true _ ?side1 A5.out).mono ?_); (case side1 => exact Kd.V_mk HC0.out (Kd.F_below (Kd.C_F (Kd.heap_int .u8) HR0.out) (by repeat (first | (with_reducible first | exact HB.out | apply below_alloc | apply pw_below_drewN | apply below_drew1 | refine below_set ?_ GE380.out) | exact HB.out)))); rintro e w13 ⟨rfl, hb⟩; refine ⟨_, rfl, ?_⟩; have n0_ := Aside0.mk (blk_below (g := gb380) (o := .cells #[.int .i64 0, .int .i64 0, .int .u32 0, .slice none 0 0] 50 (0, 0)) (by (with_reducible repeat (first | refine blk_drewN ?_ _ | refine blk_drew ?_ | refine blk_alloc ?_ _)); exact BK380.out) hb); have n1_ := Aside0.mk (below_step (by repeat (first | (with_reducible first | exact HB.out | apply below_alloc | apply pw_below_drewN | apply below_drew1 | refine below_set ?_ GE380.out) | exact HB.out)) hb); clear BK380; clear HB; have BK380 := n0_; have HB := n1_; clear n0_ n1_; (try clear hb); (try clear hb2); (try clear hk); (try clear hi)))
            have n0_ := Aside0.mk (blk_drew BK380.out)
            have n1_ := Aside0.mk (below_drew1 HB.out)
            clear BK380
            clear HB
            have BK380 := n0_
            have HB := n1_
            clear n0_ n1_
            have p382 : 0 ≤ (0 : Int) := (by omega)
            have q382 : 0 < (l0.length : Int) := of_decide_eq_true (by first | (with_reducible assumption) | assumption)
            obtain ⟨ad382, e382, hx382_0⟩ := Kd.at_int HR0.out 0 p382 q382
            have hw382_0 := hx382_0
            (try rw [show ((0 : Int)).toNat = 0 from rfl] at hw382_0)
            (try rw [show 0 * 1 = 0 from rfl] at hw382_0)
            (try rw [Addr.add_zero'] at hw382_0)
            cases e382
            have qi382 : (0 < l0.length) = True := eq_true (by omega)
            (try rw [show ((0 : Int)).toNat = 0 from rfl] at hx382_0)
            (try rw [Addr.add_zero'] at hx382_0)
            replace hx382_0 := (HB.out.cell (World.block_lt_of_cell? w _ hx382_0)).trans hx382_0
            replace p382 := eq_true p382
            replace q382 := eq_true q382
            have p383 : 0 ≤ (1 : Int) := (by omega)
            have q383 : 1 < (l0.length : Int) := of_decide_eq_true (by first | (with_reducible assumption) | assumption)
            obtain ⟨ad383, e383, hx383_0⟩ := Kd.at_int HR0.out 1 p383 q383
            have hw383_0 := hx383_0
            (try rw [show ((1 : Int)).toNat = 1 from rfl] at hw383_0)
            (try rw [show 1 * 1 = 1 from rfl] at hw383_0)
            (try simp only [Nat.reduceMul, Nat.reduceEqDiff, Go.Addr.add, ↓reduceIte] at hw383_0)
            obtain rfl : ad382 = ad383 := (by injection e383)
            (try simp only [show (1 : Int).toNat = 1 from rfl, Nat.reduceMul, Nat.reduceEqDiff, Go.Addr.add, ↓reduceIte] at hx383_0)
            have qi383 : (1 < l0.length) = True := eq_true (by omega)
            (try rw [show ((1 : Int)).toNat = 1 from rfl] at hx383_0)
            replace hx383_0 := (HB.out.cell (World.block_lt_of_cell? w _ hx383_0)).trans hx383_0
            replace p383 := eq_true p383
            replace q383 := eq_true q383
            obtain ⟨i015, hi015, _, hsz15, _⟩ := info_parts info5
            obtain ⟨A15, hcut15, hA15, hC15⟩ := print_drop_of (P := Try.prog) (Value.int .u8) 0 24 5 .i64 Try.underlying24 hi015 hsz15 (some ad382) c0 l0 8 (by omega) (of_decide_eq_true (by first | (with_reducible assumption) | assumption)) HC0.out
            have HR385 := Aside0.mk (Kd.C_of_reads (h1 := fun _ => rfl) (hA15 _ (Kd.reads_of_C HR0.out)))
            have HC385 := Aside0.mk hC15
            clear hA15 hC15 hi015 hsz15
            refine start_ (n := 16) (S := fun w' => w'.cell? ad382 = some (.int .u8 (rd l0 0)) ∧ w'.cell? ⟨ad382.block, ad382.off + 1, none⟩ = some (.int .u8 (rd l0 1))) (ds := []) #[false, false, false, false, false, false, false, false, false, false, false, false, false, false, false, false] (by kernel_rfl) rfl rfl ⟨((HB.out.cell (World.block_lt_of_cell? w _ hw382_0)).trans hw382_0), ((HB.out.cell (World.block_lt_of_cell? w _ hw383_0)).trans hw383_0)⟩ (fun hHeld => ?_); refine with_tabW icmp_Parse.tab5 icmp_Parse.bits5 (fun HT_ HW_ => ?_)
            generalize w13.drew = w14 at BK380 HB HR385 hx382_0 hx383_0 hHeld ⊢
            refine pure_ (i := 0) (N := some 14) (v := ?_) (a' := ?_) #[true, false, false, false, false, false, false, false, false, false, false, false, false, false, false, false] rfl rfl (any_of HT_.out (by kernel_rfl)) (fun _ _ _ h => h) (Or.inl ⟨by rfl, ?_⟩) ?_ ?_
            rotate_left
            · intro w'
              go_simp
              with_reducible rfl
            rotate_left
            · simp only [Act.put, List.setIfInBounds_toArray, List.set_cons_zero, List.set_cons_succ, i64_w, i32_w]
              rfl
            refine pure_ (i := 1) (N := some 15) (v := ?_) (a' := ?_) #[true, true, false, false, false, false, false, false, false, false, false, false, false, false, false, false] rfl rfl (any_of HT_.out (by kernel_rfl)) (fun _ _ _ h => h) (Or.inl ⟨by rfl, ?_⟩) ?_ ?_
            rotate_left
            · intro w'
              go_simp
              with_reducible rfl
            rotate_left
            · simp only [Act.put, List.setIfInBounds_toArray, List.set_cons_zero, List.set_cons_succ, i64_w, i32_w]
              rfl
            refine pure_ (i := 4) (N := some 18) (v := ?_) (a' := ?_) #[true, true, false, false, true, false, false, false, false, false, false, false, false, false, false, false] rfl rfl (any_of HT_.out (by kernel_rfl)) (fun _ _ _ h => h) (Or.inl ⟨by rfl, ?_⟩) ?_ ?_
            rotate_left
            · intro w'
              go_simp
              with_reducible rfl
            rotate_left
            · simp only [Act.put, List.setIfInBounds_toArray, List.set_cons_zero, List.set_cons_succ, i64_w, i32_w]
              rfl
            refine pure_ (i := 5) (N := some 19) (v := ?_) (a' := ?_) #[true, true, false, false, true, true, false, false, false, false, false, false, false, false, false, false] rfl rfl (any_of HT_.out (by kernel_rfl)) (fun _ _ _ h => h) (Or.inl ⟨by rfl, ?_⟩) ?_ ?_
            rotate_left
            · intro w'
              go_simp
              with_reducible rfl
            rotate_left
            · simp only [Act.put, List.setIfInBounds_toArray, List.set_cons_zero, List.set_cons_succ, i64_w, i32_w]
              rfl
            refine pure_ (i := 8) (N := some 22) (v := ?_) (a' := ?_) #[true, true, false, false, true, true, false, false, true, false, false, false, false, false, false, false] rfl rfl (any_of HT_.out (by kernel_rfl)) (fun _ _ _ h => h) (Or.inl ⟨by rfl, ?_⟩) ?_ ?_
            rotate_left
            · intro w'
              go_simp
              with_reducible rfl
            rotate_left
            · simp only [Act.put, List.setIfInBounds_toArray, List.set_cons_zero, List.set_cons_succ, i64_w, i32_w]
              rfl
            refine pure_ (i := 10) (N := some 24) (v := ?_) (a' := ?_) #[true, true, false, false, true, true, false, false, true, false, true, false, false, false, false, false] rfl rfl (any_of HT_.out (by kernel_rfl)) (fun _ _ _ h => h) (Or.inl ⟨by rfl, ?_⟩) ?_ ?_
            rotate_left
            · intro w'
              go_simp
              with_reducible rfl
            rotate_left
            · simp only [Act.put, List.setIfInBounds_toArray, List.set_cons_zero, List.set_cons_succ, i64_w, i32_w]
              rfl
            refine pure_ (i := 11) (N := some 25) (v := ?_) (a' := ?_) #[true, true, false, false, true, true, false, false, true, false, true, true, false, false, false, false] rfl rfl (any_of HT_.out (by kernel_rfl)) (fun _ _ _ h => h) (Or.inl ⟨by rfl, ?_⟩) ?_ ?_
            rotate_left
            · intro w'
              go_simp
              with_reducible rfl
            rotate_left
            · simp only [Act.put, List.setIfInBounds_toArray, List.set_cons_zero, List.set_cons_succ, i64_w, i32_w]
              rfl
            refine take_ (i := 2) (N := some 16) (v := ?_) (a' := ?_) #[true, true, true, false, true, true, false, false, true, false, true, true, false, false, false, false] rfl rfl (take_ofW HT_.out HW_.out (by kernel_rfl)) (fun _ _ _ h => h) (Or.inl ⟨by rfl, ?_⟩) hHeld ?_ ?_
            rotate_left
            · rintro w' ⟨s0, s1⟩
              go_simp
              with_reducible rfl
            rotate_left
            · simp only [Act.put, List.setIfInBounds_toArray, List.set_cons_zero, List.set_cons_succ, i64_w, i32_w]
              rfl
            refine pure_ (i := 3) (N := some 17) (v := ?_) (a' := ?_) #[true, true, true, true, true, true, false, false, true, false, true, true, false, false, false, false] rfl rfl (any_of HT_.out (by kernel_rfl)) (fun _ _ _ h => h) (Or.inl ⟨by rfl, ?_⟩) ?_ ?_
            rotate_left
            · intro w'
              go_simp
              with_reducible rfl
            rotate_left
            · simp only [Act.put, List.setIfInBounds_toArray, List.set_cons_zero, List.set_cons_succ, i64_w, i32_w]
              rfl
            refine take_ (i := 6) (N := some 20) (v := ?_) (a' := ?_) #[true, true, true, true, true, true, true, false, true, false, true, true, false, false, false, false] rfl rfl (take_ofW HT_.out HW_.out (by kernel_rfl)) (fun _ _ _ h => h) (Or.inl ⟨by rfl, ?_⟩) hHeld ?_ ?_
            rotate_left
            · rintro w' ⟨s0, s1⟩
              go_simp
              with_reducible rfl
            rotate_left
            · simp only [Act.put, List.setIfInBounds_toArray, List.set_cons_zero, List.set_cons_succ, i64_w, i32_w]
              rfl
            refine pure_ (i := 7) (N := some 21) (v := ?_) (a' := ?_) #[true, true, true, true, true, true, true, true, true, false, true, true, false, false, false, false] rfl rfl (any_of HT_.out (by kernel_rfl)) (fun _ _ _ h => h) (Or.inl ⟨by rfl, ?_⟩) ?_ ?_
            rotate_left
            · intro w'
              go_simp
              with_reducible rfl
            rotate_left
            · simp only [Act.put, List.setIfInBounds_toArray, List.set_cons_zero, List.set_cons_succ, i64_w, i32_w]
              rfl
            refine one_ (i := 9) (N := some 23) #[true, true, true, true, true, true, true, true, true, true, true, true, false, false, false, false] rfl rfl (one_of HT_.out (by kernel_rfl)) (by decide) (fun K hK => ?_)
            refine goes_ Try.func69 (by kernel_rfl) rfl #[.slice (some ad382) l0.length c0, .int .i64 4] (by rfl) rfl rfl (by (try simp only [List.map_toArray, List.map_cons, List.map_nil]); first | done | rfl | (simp only [List.length_drop, List.length_take]; rfl)) ?_
            with_reducible refine (word_Get32.calls k _ _ l0 4 t384 _ ?side1 ?side2 A9.out).mono ?_
            (case side1 => repeat (first | exact (Kd.C_below HR0.out HB.out) | (with_reducible refine Kd.C_alloc ?_ _) | (with_reducible refine Kd.C_drewN ?_ _) | (with_reducible refine Kd.C_drew ?_)))
            (case side2 => exact HC0.out)
            rintro e w' ⟨rfl, ⟨nd, rfl⟩⟩
            refine ⟨_, rfl, ?_⟩
            refine hK.out _ _ ⟨((HB.out.cell (World.block_lt_of_cell? w _ hw382_0)).trans hw382_0), ((HB.out.cell (World.block_lt_of_cell? w _ hw383_0)).trans hw383_0)⟩ (fun hHeld => ?_)
            clear hK K
            refine norm_ (a' := ?_) ?_ ?_
            rotate_left
            · show Act.put _ (some 23) _ = _
              simp only [Act.put, List.setIfInBounds_toArray, List.set_cons_zero, List.set_cons_succ, i64_w, i32_w]
              rfl
            refine one_ (i := 12) (N := some 26) #[true, true, true, true, true, true, true, true, true, true, true, true, true, false, false, false] rfl rfl (one_of HT_.out (by kernel_rfl)) (by decide) (fun K hK => ?_)
            refine goes_ Try.func70 (by kernel_rfl) rfl #[.slice A15 (l0.drop 8).length (c0 - 8)] (by rfl) rfl rfl (by (try simp only [List.map_toArray, List.map_cons, List.map_nil]); first | done | (rw [show (l0.drop 8).length = (l0.length - 8) from List.length_drop] <;> rfl) | rfl | (simp only [List.length_drop, List.length_take]; rfl)) ?_
            with_reducible refine (bytes_Clone.calls _ _ (l0.drop 8) t386 _ ?side1 ?side2 A11.out).mono ?_
            (case side1 => repeat (first | exact (Kd.C_below HR385.out (by repeat (first | (with_reducible first | exact HB.out | apply below_alloc | apply pw_below_drewN | apply below_drew1 | refine below_set ?_ GE380.out) | exact HB.out))) | (with_reducible refine Kd.C_alloc ?_ _) | (with_reducible refine Kd.C_drewN ?_ _) | (with_reducible refine Kd.C_drew ?_)))
            (case side2 => exact HC385.out)
            rintro e w16 ⟨v387, rfl, ho0, hb⟩
            refine ⟨_, rfl, ?_⟩
            have n0_ := Aside0.mk (Kd.R_lower ho0 (below_size (by repeat (first | (with_reducible first | exact HB.out | apply below_alloc | apply pw_below_drewN | apply below_drew1 | refine below_set ?_ GE380.out) | exact HB.out))))
            have n1_ := Aside0.mk (blk_below (g := gb380) (o := .cells #[.int .i64 0, .int .i64 0, .int .u32 0, .slice none 0 0] 50 (0, 0)) (by (with_reducible repeat (first | refine blk_drewN ?_ _ | refine blk_drew ?_ | refine blk_alloc ?_ _)); exact BK380.out) hb)
            have n2_ := Aside0.mk (below_step (by repeat (first | (with_reducible first | exact HB.out | apply below_alloc | apply pw_below_drewN | apply below_drew1 | refine below_set ?_ GE380.out) | exact HB.out)) hb)
            clear BK380
            clear HB
            have HO388 := n0_
            have BK380 := n1_
            have HB := n2_
            clear n0_ n1_ n2_
            (try clear hb)
            (try clear hb2)
            (try clear hk)
            (try clear hi)
            (try clear ho0)
            obtain ⟨Ao17, co17, eo17⟩ := Kd.R_slice HO388.out
            (first | subst eo17 | (injection eo17 with f1_ f2_ f3_; have f4_ := f1_.symm; have f5_ := f3_.symm; clear f1_ f2_ f3_; subst f4_; subst f5_))
            refine hK.out _ _ ⟨((HB.out.cell (World.block_lt_of_cell? w _ hw382_0)).trans hw382_0), ((HB.out.cell (World.block_lt_of_cell? w _ hw383_0)).trans hw383_0)⟩ (fun hHeld => ?_)
            clear hK K
            refine norm_ (a' := ?_) ?_ ?_
            rotate_left
            · show Act.put _ (some 26) _ = _
              simp only [Act.put, List.setIfInBounds_toArray, List.set_cons_zero, List.set_cons_succ, i64_w, i32_w]
              rfl
            refine pure_ (i := 13) (N := some 27) (v := ?_) (a' := ?_) #[true, true, true, true, true, true, true, true, true, true, true, true, true, true, false, false] rfl rfl (any_of HT_.out (by kernel_rfl)) (fun _ _ _ h => h) (Or.inl ⟨by rfl, ?_⟩) ?_ ?_
            rotate_left
            · intro w'
              go_simp
              with_reducible rfl
            rotate_left
            · simp only [Act.put, List.setIfInBounds_toArray, List.set_cons_zero, List.set_cons_succ, i64_w, i32_w]
              rfl
            refine one_ (i := 14) (N := none) #[true, true, true, true, true, true, true, true, true, true, true, true, true, true, true, false] rfl rfl (one_of HT_.out (by kernel_rfl)) (by decide) (fun K hK => ?_)
            have hs18 : w16.cell? ⟨gb380, 0, none⟩ = some (.int .i64 0) := (blk_cell BK380.out 0).trans rfl
            have hfs18 := blk_frozen BK380.out 0
            have hs19 : w16.cell? ⟨gb380, 1, none⟩ = some (.int .i64 0) := (blk_cell BK380.out 1).trans rfl
            have hfs19 := blk_frozen BK380.out 1
            have hs20 : w16.cell? ⟨gb380, 2, none⟩ = some (.int .u32 0) := (blk_cell BK380.out 2).trans rfl
            have hfs20 := blk_frozen BK380.out 2
            have hs21 : w16.cell? ⟨gb380, 3, none⟩ = some (.slice none 0 0) := (blk_cell BK380.out 3).trans rfl
            have hfs21 := blk_frozen BK380.out 3
            refine skip_ (w1 := ?_) (by rfl) rfl ?_ ?_
            rotate_left
            · go_simp
              rfl
            refine hK.out _ _ ⟨((cell_far (p := ⟨gb380, _, none⟩) (by first | exact Nat.ne_of_lt (Nat.lt_of_lt_of_le (by have := World.block_lt_of_cell? _ _ hw382_0; first | rwa [add_block] at this | exact this) GW380.out) | (rw [add_block]; exact Nat.ne_of_lt (Nat.lt_of_lt_of_le (by have := World.block_lt_of_cell? _ _ hw382_0; first | rwa [add_block] at this | exact this) GW380.out)) | (show (Addr.add _ _).block ≠ _; rw [add_block]; exact Nat.ne_of_lt (Nat.lt_of_lt_of_le (by have := World.block_lt_of_cell? _ _ hw382_0; first | rwa [add_block] at this | exact this) GW380.out)) | (dsimp only; exact Nat.ne_of_lt (Nat.lt_of_lt_of_le (by have := World.block_lt_of_cell? _ _ hw382_0; first | rwa [add_block] at this | exact this) GW380.out))) _).trans (((cell_far (p := ⟨gb380, _, none⟩) (by first | exact Nat.ne_of_lt (Nat.lt_of_lt_of_le (by have := World.block_lt_of_cell? _ _ hw382_0; first | rwa [add_block] at this | exact this) GW380.out) | (rw [add_block]; exact Nat.ne_of_lt (Nat.lt_of_lt_of_le (by have := World.block_lt_of_cell? _ _ hw382_0; first | rwa [add_block] at this | exact this) GW380.out)) | (show (Addr.add _ _).block ≠ _; rw [add_block]; exact Nat.ne_of_lt (Nat.lt_of_lt_of_le (by have := World.block_lt_of_cell? _ _ hw382_0; first | rwa [add_block] at this | exact this) GW380.out)) | (dsimp only; exact Nat.ne_of_lt (Nat.lt_of_lt_of_le (by have := World.block_lt_of_cell? _ _ hw382_0; first | rwa [add_block] at this | exact this) GW380.out))) _).trans (((cell_far (p := ⟨gb380, _, none⟩) (by first | exact Nat.ne_of_lt (Nat.lt_of_lt_of_le (by have := World.block_lt_of_cell? _ _ hw382_0; first | rwa [add_block] at this | exact this) GW380.out) | (rw [add_block]; exact Nat.ne_of_lt (Nat.lt_of_lt_of_le (by have := World.block_lt_of_cell? _ _ hw382_0; first | rwa [add_block] at this | exact this) GW380.out)) | (show (Addr.add _ _).block ≠ _; rw [add_block]; exact Nat.ne_of_lt (Nat.lt_of_lt_of_le (by have := World.block_lt_of_cell? _ _ hw382_0; first | rwa [add_block] at this | exact this) GW380.out)) | (dsimp only; exact Nat.ne_of_lt (Nat.lt_of_lt_of_le (by have := World.block_lt_of_cell? _ _ hw382_0; first | rwa [add_block] at this | exact this) GW380.out))) _).trans (((cell_far (p := ⟨gb380, _, none⟩) (by first | exact Nat.ne_of_lt (Nat.lt_of_lt_of_le (by have := World.block_lt_of_cell? _ _ hw382_0; first | rwa [add_block] at this | exact this) GW380.out) | (rw [add_block]; exact Nat.ne_of_lt (Nat.lt_of_lt_of_le (by have := World.block_lt_of_cell? _ _ hw382_0; first | rwa [add_block] at this | exact this) GW380.out)) | (show (Addr.add _ _).block ≠ _; rw [add_block]; exact Nat.ne_of_lt (Nat.lt_of_lt_of_le (by have := World.block_lt_of_cell? _ _ hw382_0; first | rwa [add_block] at this | exact this) GW380.out)) | (dsimp only; exact Nat.ne_of_lt (Nat.lt_of_lt_of_le (by have := World.block_lt_of_cell? _ _ hw382_0; first | rwa [add_block] at this | exact this) GW380.out))) _).trans (hHeld.1)))))))), ((cell_far (p := ⟨gb380, _, none⟩) (by first | exact Nat.ne_of_lt (Nat.lt_of_lt_of_le (by have := World.block_lt_of_cell? _ _ hw383_0; first | rwa [add_block] at this | exact this) GW380.out) | (rw [add_block]; exact Nat.ne_of_lt (Nat.lt_of_lt_of_le (by have := World.block_lt_of_cell? _ _ hw383_0; first | rwa [add_block] at this | exact this) GW380.out)) | (show (Addr.add _ _).block ≠ _; rw [add_block]; exact Nat.ne_of_lt (Nat.lt_of_lt_of_le (by have := World.block_lt_of_cell? _ _ hw383_0; first | rwa [add_block] at this | exact this) GW380.out)) | (dsimp only; exact Nat.ne_of_lt (Nat.lt_of_lt_of_le (by have := World.block_lt_of_cell? _ _ hw383_0; first | rwa [add_block] at this | exact this) GW380.out))) _).trans (((cell_far (p := ⟨gb380, _, none⟩) (by first | exact Nat.ne_of_lt (Nat.lt_of_lt_of_le (by have := World.block_lt_of_cell? _ _ hw383_0; first | rwa [add_block] at this | exact this) GW380.out) | (rw [add_block]; exact Nat.ne_of_lt (Nat.lt_of_lt_of_le (by have := World.block_lt_of_cell? _ _ hw383_0; first | rwa [add_block] at this | exact this) GW380.out)) | (show (Addr.add _ _).block ≠ _; rw [add_block]; exact Nat.ne_of_lt (Nat.lt_of_lt_of_le (by have := World.block_lt_of_cell? _ _ hw383_0; first | rwa [add_block] at this | exact this) GW380.out)) | (dsimp only; exact Nat.ne_of_lt (Nat.lt_of_lt_of_le (by have := World.block_lt_of_cell? _ _ hw383_0; first | rwa [add_block] at this | exact this) GW380.out))) _).trans (((cell_far (p := ⟨gb380, _, none⟩) (by first | exact Nat.ne_of_lt (Nat.lt_of_lt_of_le (by have := World.block_lt_of_cell? _ _ hw383_0; first | rwa [add_block] at this | exact this) GW380.out) | (rw [add_block]; exact Nat.ne_of_lt (Nat.lt_of_lt_of_le (by have := World.block_lt_of_cell? _ _ hw383_0; first | rwa [add_block] at this | exact this) GW380.out)) | (show (Addr.add _ _).block ≠ _; rw [add_block]; exact Nat.ne_of_lt (Nat.lt_of_lt_of_le (by have := World.block_lt_of_cell? _ _ hw383_0; first | rwa [add_block] at this | exact this) GW380.out)) | (dsimp only; exact Nat.ne_of_lt (Nat.lt_of_lt_of_le (by have := World.block_lt_of_cell? _ _ hw383_0; first | rwa [add_block] at this | exact this) GW380.out))) _).trans (((cell_far (p := ⟨gb380, _, none⟩) (by first | exact Nat.ne_of_lt (Nat.lt_of_lt_of_le (by have := World.block_lt_of_cell? _ _ hw383_0; first | rwa [add_block] at this | exact this) GW380.out) | (rw [add_block]; exact Nat.ne_of_lt (Nat.lt_of_lt_of_le (by have := World.block_lt_of_cell? _ _ hw383_0; first | rwa [add_block] at this | exact this) GW380.out)) | (show (Addr.add _ _).block ≠ _; rw [add_block]; exact Nat.ne_of_lt (Nat.lt_of_lt_of_le (by have := World.block_lt_of_cell? _ _ hw383_0; first | rwa [add_block] at this | exact this) GW380.out)) | (dsimp only; exact Nat.ne_of_lt (Nat.lt_of_lt_of_le (by have := World.block_lt_of_cell? _ _ hw383_0; first | rwa [add_block] at this | exact this) GW380.out))) _).trans (hHeld.2))))))))⟩ (fun hHeld => ?_)
            clear hK K
            refine pure_ (i := 15) (N := some 3) (v := ?_) (a' := ?_) #[true, true, true, true, true, true, true, true, true, true, true, true, true, true, true, true] rfl rfl (any_of HT_.out (by kernel_rfl)) (fun _ _ _ h => h) (Or.inl ⟨by rfl, ?_⟩) ?_ ?_
            rotate_left
            · intro w'
              go_simp
              with_reducible rfl
            rotate_left
            · simp only [Act.put, List.setIfInBounds_toArray, List.set_cons_zero, List.set_cons_succ, i64_w, i32_w]
              rfl
            refine done_ (done_of HT_.out (by kernel_rfl)) ?_
            try go_wp2
            refine bodyPost_ret (results_ct rfl _ _ gb380 50 #[.int .i64 (wrap64 (rd l0 0)), .int .i64 (wrap64 (rd l0 1)), .int .u32 t384, .slice Ao17 t386.length co17] (0, 0) _ rfl (by (with_reducible repeat (first | refine blk_drewN ?_ _ | refine blk_drew ?_ | refine blk_alloc ?_ _)); refine blk_put (cs := #[.int .i64 (wrap64 (rd l0 0)), .int .i64 (wrap64 (rd l0 1)), .int .u32 t384, .slice none 0 0]) ?_ 3 _ rfl; (with_reducible repeat (first | refine blk_drewN ?_ _ | refine blk_drew ?_ | refine blk_alloc ?_ _)); refine blk_put (cs := #[.int .i64 (wrap64 (rd l0 0)), .int .i64 (wrap64 (rd l0 1)), .int .u32 0, .slice none 0 0]) ?_ 2 _ rfl; (with_reducible repeat (first | refine blk_drewN ?_ _ | refine blk_drew ?_ | refine blk_alloc ?_ _)); refine blk_put (cs := #[.int .i64 (wrap64 (rd l0 0)), .int .i64 0, .int .u32 0, .slice none 0 0]) ?_ 1 _ rfl; (with_reducible repeat (first | refine blk_drewN ?_ _ | refine blk_drew ?_ | refine blk_alloc ?_ _)); refine blk_put (cs := #[.int .i64 0, .int .i64 0, .int .u32 0, .slice none 0 0]) ?_ 0 _ rfl; (with_reducible repeat (first | refine blk_drewN ?_ _ | refine blk_drew ?_ | refine blk_alloc ?_ _)); exact BK380.out) Try.underlying50 rfl (by kernel_rfl)) rfl ?_
            exact ⟨_, by first | rfl | (simp [errW_none, errW_some] <;> rfl) | (simp [*, errW_none, errW_some] <;> rfl), by (with_reducible repeat (first | apply Kd.R_alloc | apply Kd.R_drewN | apply Kd.R_drew)); exact Kd.R_mono (Kd.R_far (p := ⟨gb380, 3, none⟩) (Kd.R_far (p := ⟨gb380, 2, none⟩) (Kd.R_far (p := ⟨gb380, 1, none⟩) (Kd.R_far (p := ⟨gb380, 0, none⟩) (Kd.R_types HO388.out BK380.out (by decide)) (fun _ hk => hk.2) (.int .i64 (wrap64 (rd l0 0)))) (fun _ hk => hk.2) (.int .i64 (wrap64 (rd l0 1)))) (fun _ hk => hk.2) (.int .u32 t384)) (fun _ hk => hk.2) (.slice Ao17 t386.length co17)) (fun _ hk => trivial), by repeat (first | (with_reducible first | exact HB.out | apply below_alloc | apply pw_below_drewN | apply below_drew1 | refine below_set ?_ GE380.out) | exact HB.out)⟩
          · rw [if_neg c10] at H
            exact absurd H (by simp)
        · rw [if_neg c8] at H
          exact absurd H (by simp)
      · rw [if_neg c7] at H
        exact absurd H (by simp)
    · replace c6 := Bool.eq_false_iff.mpr c6
      subst c6
      have H1 : (some (0, 0, 0, ([] : List Int), 4)) = some (r1, r2, r3, r4, r5) := by rw [if_neg (show ¬ (false = true) by decide)] at H; exact H
      clear H
      have H := H1
      clear H1
      simp only [Option.some.injEq, Prod.mk.injEq] at H
      obtain ⟨rfl, rfl, rfl, rfl, rfl⟩ := H
      go_enter Try.func86, Try.ntmps86
      go_wp2_with (first | ((with_reducible refine gate_dst (N := 2) rfl ?_); refine box_event ?hg (N := 2) ?hd (cs := #[.int .i64 0, .int .i64 0, .int .u32 0, .slice none 0 0]) (t := 50) ?hr ?_; (case hd => rfl); (case hg => rfl); (case hr => first | (go_simp; done) | (go_simp; rfl)); intro gb380 hg w22 hbox hb; have n0_ := Aside0.mk (below_step (by repeat (first | (with_reducible first | exact HB.out | apply below_alloc | apply pw_below_drewN | apply below_drew1) | exact HB.out)) hb); have n1_ := Aside0.mk (hbox); have n2_ := Aside0.mk ((by rw [hg]; exact (below_size (by repeat (first | (with_reducible first | exact HB.out | apply below_alloc | apply pw_below_drewN | apply below_drew1) | exact HB.out))) : w.heap.size ≤ gb380)); have n3_ := Aside0.mk ((by rw [hg]; exact (below_size (by repeat (first | (with_reducible first | exact HB.out | apply below_alloc | apply pw_below_drewN | apply below_drew1) | exact HB.out))) : w.heap.size ≤ gb380)); clear HB; have HB := n0_; have BK380 := n1_; have GW380 := n2_; have GE380 := n3_; clear n0_ n1_ n2_ n3_; clear hb hbox hg) | ((with_reducible refine gate_callee (f := 90) rfl ?_); refine goesL_ (some 11) rfl rfl Try.func90 (by kernel_rfl) rfl #[.slice A0 l0.length c0] rfl (by (try simp only [List.map_toArray, List.map_cons, List.map_nil]); first | done | rfl | (simp only [List.length_drop, List.length_take]; rfl)) ?_; (with_reducible refine (sum_Right.calls k (fun k_ => k_ < w.heap.size) _ _ l0 false _ ?side1 A5.out).mono ?_); (case side1 => exact Kd.V_mk HC0.out (Kd.F_below (Kd.C_F (Kd.heap_int .u8) HR0.out) (by repeat (first | (with_reducible first | exact HB.out | apply below_alloc | apply pw_below_drewN | apply below_drew1 | refine below_set ?_ GE380.out) | exact HB.out)))); rintro e w23 ⟨rfl, hb⟩; refine ⟨_, rfl, ?_⟩; have n0_ := Aside0.mk (blk_below (g := gb380) (o := .cells #[.int .i64 0, .int .i64 0, .int .u32 0, .slice none 0 0] 50 (0, 0)) (by (with_reducible repeat (first | refine blk_drewN ?_ _ | refine blk_drew ?_ | refine blk_alloc ?_ _)); exact BK380.out) hb); have n1_ := Aside0.mk (below_step (by repeat (first | (with_reducible first | exact HB.out | apply below_alloc | apply pw_below_drewN | apply below_drew1 | refine below_set ?_ GE380.out) | exact HB.out)) hb); clear BK380; clear HB; have BK380 := n0_; have HB := n1_; clear n0_ n1_; (try clear hb); (try clear hb2); (try clear hk); (try clear hi); have hcz24_0 : w23.cell? ⟨gb380, 0, none⟩ = some (.int .i64 0) := (blk_cell BK380.out 0).trans rfl; have hcz24_1 : w23.cell? ⟨gb380, 1, none⟩ = some (.int .i64 0) := (blk_cell BK380.out 1).trans rfl; have hcz24_2 : w23.cell? ⟨gb380, 2, none⟩ = some (.int .u32 0) := (blk_cell BK380.out 2).trans rfl; have hcz24_3 : w23.cell? ⟨gb380, 3, none⟩ = some (.slice none 0 0) := (blk_cell BK380.out 3).trans rfl; have hfz24_0 := blk_frozen BK380.out 0; have hfz24_1 := blk_frozen BK380.out 1; have hfz24_2 := blk_frozen BK380.out 2; have hfz24_3 := blk_frozen BK380.out 3))
      refine bodyPost_ret (results_ct rfl _ _ gb380 50 #[.int .i64 0, .int .i64 0, .int .u32 0, .slice none 0 0] (0, 0) _ rfl (by (with_reducible repeat (first | refine blk_drewN ?_ _ | refine blk_drew ?_ | refine blk_alloc ?_ _)); refine blk_put (cs := #[.int .i64 0, .int .i64 0, .int .u32 0, .slice none 0 0]) ?_ 3 _ rfl; (with_reducible repeat (first | refine blk_drewN ?_ _ | refine blk_drew ?_ | refine blk_alloc ?_ _)); refine blk_put (cs := #[.int .i64 0, .int .i64 0, .int .u32 0, .slice none 0 0]) ?_ 2 _ rfl; (with_reducible repeat (first | refine blk_drewN ?_ _ | refine blk_drew ?_ | refine blk_alloc ?_ _)); refine blk_put (cs := #[.int .i64 0, .int .i64 0, .int .u32 0, .slice none 0 0]) ?_ 1 _ rfl; (with_reducible repeat (first | refine blk_drewN ?_ _ | refine blk_drew ?_ | refine blk_alloc ?_ _)); refine blk_put (cs := #[.int .i64 0, .int .i64 0, .int .u32 0, .slice none 0 0]) ?_ 0 _ rfl; (with_reducible repeat (first | refine blk_drewN ?_ _ | refine blk_drew ?_ | refine blk_alloc ?_ _)); exact BK380.out) Try.underlying50 rfl (by kernel_rfl)) rfl ?_
      exact ⟨_, by first | rfl | (simp [errW_none, errW_some] <;> rfl) | (simp [*, errW_none, errW_some] <;> rfl), by first | exact Kd.R_nil _ _ _ _ _ | exact Kd.N_nil _ _ _ _ _ | exact Kd.V_nil _ _ _ _ _ | exact Kd.Q_nil _ _ _ _ _ | exact Kd.S_nil _ _ _ _ _, by repeat (first | (with_reducible first | exact HB.out | apply below_alloc | apply pw_below_drewN | apply below_drew1 | refine below_set ?_ GE380.out) | exact HB.out)⟩

/-! ### icmp_Query: function 87 -/
def icmp_Query.f (a0 : Int) : Option (Bool) := if a0 = 0 then (some true) else (if a0 = 8 then (some true) else (if a0 = 13 then (some true) else (if a0 = 14 then (some true) else (some false))))
set_option maxHeartbeats 8000000 in
set_option maxRecDepth 100000 in
theorem icmp_Query.calls (a0 : Int) (r : Bool) (w : World) (h : icmp_Query.f a0 = some r) :
    Calls Try.prog 87 #[.int .i64 a0] w fun e w' => e = .returned (.bool r) ∧ Drawn0 w w' := by
  have H : (if a0 = 0 then (some true) else (if a0 = 8 then (some true) else (if a0 = 13 then (some true) else (if a0 = 14 then (some true) else (some false))))) = some r := h
  clear h
  by_cases c2 : a0 = 0
  · rw [if_pos c2] at H
    have c2b0 : (a0 == 0) = true := beq_iff_eq.mpr c2
    have c2b1 : (a0 != 0) = false := bne_eq_false_iff_eq.mpr c2
    clear c2
    obtain rfl := Option.some.inj H
    go_enter Try.func87, Try.ntmps87
    go_wp2
    go_ret
    exact ⟨by first | rfl | (simp; done) | (simp [*]; done), by repeat (first | exact Drawn0.refl _ | apply Drawn0.step)⟩
  · rw [if_neg c2] at H
    have c2b0 : (a0 == 0) = false := beq_eq_false_iff_ne.mpr c2
    have c2b1 : (a0 != 0) = true := bne_iff_ne.mpr c2
    by_cases c3 : a0 = 8
    · rw [if_pos c3] at H
      have c3b0 : (a0 == 8) = true := beq_iff_eq.mpr c3
      have c3b1 : (a0 != 8) = false := bne_eq_false_iff_eq.mpr c3
      clear c3
      obtain rfl := Option.some.inj H
      go_enter Try.func87, Try.ntmps87
      go_wp2
      go_ret
      exact ⟨by first | rfl | (simp; done) | (simp [*]; done), by repeat (first | exact Drawn0.refl _ | apply Drawn0.step)⟩
    · rw [if_neg c3] at H
      have c3b0 : (a0 == 8) = false := beq_eq_false_iff_ne.mpr c3
      have c3b1 : (a0 != 8) = true := bne_iff_ne.mpr c3
      by_cases c4 : a0 = 13
      · rw [if_pos c4] at H
        have c4b0 : (a0 == 13) = true := beq_iff_eq.mpr c4
        have c4b1 : (a0 != 13) = false := bne_eq_false_iff_eq.mpr c4
        clear c4
        obtain rfl := Option.some.inj H
        go_enter Try.func87, Try.ntmps87
        go_wp2
        go_ret
        exact ⟨by first | rfl | (simp; done) | (simp [*]; done), by repeat (first | exact Drawn0.refl _ | apply Drawn0.step)⟩
      · rw [if_neg c4] at H
        have c4b0 : (a0 == 13) = false := beq_eq_false_iff_ne.mpr c4
        have c4b1 : (a0 != 13) = true := bne_iff_ne.mpr c4
        by_cases c5 : a0 = 14
        · rw [if_pos c5] at H
          have c5b0 : (a0 == 14) = true := beq_iff_eq.mpr c5
          have c5b1 : (a0 != 14) = false := bne_eq_false_iff_eq.mpr c5
          clear c5
          obtain rfl := Option.some.inj H
          go_enter Try.func87, Try.ntmps87
          go_wp2
          go_ret
          exact ⟨by first | rfl | (simp; done) | (simp [*]; done), by repeat (first | exact Drawn0.refl _ | apply Drawn0.step)⟩
        · rw [if_neg c5] at H
          have c5b0 : (a0 == 14) = false := beq_eq_false_iff_ne.mpr c5
          have c5b1 : (a0 != 14) = true := bne_iff_ne.mpr c5
          obtain rfl := Option.some.inj H
          go_enter Try.func87, Try.ntmps87
          go_wp2
          go_ret
          exact ⟨by first | rfl | (simp; done) | (simp [*]; done), by repeat (first | exact Drawn0.refl _ | apply Drawn0.step)⟩

-- NOT PRINTED: function 88 (pack_inner)

-- NOT PRINTED: function 63 (pack_ofICMP)

end Go.Proofs.Ytkdibloahkhgoaa.QPackPorts
