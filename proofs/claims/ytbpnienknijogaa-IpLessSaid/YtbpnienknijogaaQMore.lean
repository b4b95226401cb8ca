/- blocks that a call has made and knows whole, kept in one list beside the world: each event (a new block, a store of a whole struct or of one cell, a call, a draw) moves the list. No condition. -/
import Derived.Test.YtbpnienknijogaaQCopy
import Derived.Test.YtbpnienknijogaaWMore
import Derived.Test.YtbpnienknijogaaWGuard
import Derived.Laws.Rows
namespace Go.Proofs.YtbpnienknijogaaW.PrintWords
open Go.RowKit Go.Proofs.YtbpnienknijogaaW.PrintLast
set_option linter.unusedVariables false

/-- one block has been written, nothing else -/
structure PutAt (W w1 : World) (g : Nat) : Prop where
  os : w1.os = W.os
  tape : w1.tape = W.tape
  output : w1.output = W.output
  size : w1.heap.size = W.heap.size
  block : ∀ k, k ≠ g → w1.heap[k]? = W.heap[k]?
theorem PutAt.setRow (W : World) (g : Nat) (cs : Array Value) : PutAt W (W.setRow g cs) g :=
  ⟨rfl, rfl, rfl, size_setRow W g cs, fun k hk => setRow_other W g k cs hk⟩
theorem PutAt.setCell (W : World) (g i : Nat) (v : Value) : PutAt W (W.setCell ⟨g, i, none⟩ v) g :=
  ⟨rfl, rfl, rfl, by simp [World.setCell], fun k hk => heap_setCell_other W ⟨g, i, none⟩ k v hk⟩
theorem PutAt.below {B : Nat} {w W w1 : World} {g : Nat} (p : PutAt W w1 g) (h : Below B w W) (hg : B ≤ g) : Below B w w1 :=
  ⟨p.os.trans h.os, p.tape.trans h.tape, p.output.trans h.output, by have := h.size; have := p.size; omega, fun k hk => (p.block k (by omega)).trans (h.block k hk)⟩

theorem R_put5 {W w1 : World} {base g : Nat} {t : TypeId} {cs : Array Value} {v : Value} {xs : List Int} (h : Kd.R (Kd.int .u8) 5 W base (fun _ => True) v xs) (hb : W.heap[g]? = some (.cells cs t (0, 0))) (ht : t ≠ 5) (p : PutAt W w1 g) :
    Kd.R (Kd.int .u8) 5 w1 base (fun _ => True) v xs :=
  Kd.R_mono (Kd.R_step (Kd.R_types h hb (fun q hq => by
    have e : q = 5 := by simpa [Kd.int, Kd.scalar] using hq
    subst e
    exact fun e => ht e.symm)) (fun k hk _ => p.block k hk.2)) (fun _ _ => trivial)

/-- a block's number, its cells, its type -/
abbrev Blk := Nat × Array Value × TypeId
/-- a row of bytes that the call has made -/
abbrev Rw := Value × List Int
/-- what the call has made: below the heap's size at its begin nothing has changed; each listed block is as it is told, and no other one's; each listed row of bytes is as it is told -/
structure Owns (w W : World) (l : List Blk) (rs : List Rw) : Prop where
  below : Below w.heap.size w W
  base : ∀ x ∈ l, w.heap.size ≤ x.1
  blk : ∀ x ∈ l, W.heap[x.1]? = some (.cells x.2.1 x.2.2 (0, 0))
  apart : (l.map (·.1)).Pairwise (· ≠ ·)
  no5 : ∀ x ∈ l, x.2.2 ≠ 5
  rows : ∀ x ∈ rs, Kd.R (Kd.int .u8) 5 W w.heap.size (fun _ => True) x.1 x.2
namespace Owns
variable {w W w1 : World} {l : List Blk} {rs : List Rw} {g : Nat} {cs : Array Value} {t : TypeId}
theorem nil_of (h : Below w.heap.size w W) : Owns w W [] [] := ⟨h, fun _ h => (List.not_mem_nil h).elim, fun _ h => (List.not_mem_nil h).elim, List.Pairwise.nil, fun _ h => (List.not_mem_nil h).elim, fun _ h => (List.not_mem_nil h).elim⟩
theorem nil (w : World) : Owns w w [] [] := nil_of (Below.refl _ _)
theorem lt (h : Owns w W l rs) {x : Blk} (hx : x ∈ l) : x.1 < W.heap.size := (Array.getElem?_eq_some_iff.1 (h.blk x hx)).1
theorem at_ (h : Owns w W l rs) (i : Nat) {x : Blk} (hi : l[i]? = some x) : W.heap[x.1]? = some (.cells x.2.1 x.2.2 (0, 0)) := h.blk x (List.mem_of_getElem? hi)
/-- row number i, read -/
theorem row (h : Owns w W l rs) (i : Nat) {v : Value} {xs : List Int} (hi : rs[i]? = some (v, xs)) : Kd.R (Kd.int .u8) 5 W w.heap.size (fun _ => True) v xs := h.rows _ (List.mem_of_getElem? hi)
theorem rd (h : Owns w W l rs) (i : Nat) {A : Option Addr} {c : Nat} {xs : List Int} (hi : rs[i]? = some (.slice A xs.length c, xs)) : Kd.C (Kd.int .u8) W A xs.length xs := (Kd.R_reads' (h.row i hi)).2.2
theorem cap (h : Owns w W l rs) (i : Nat) {A : Option Addr} {c : Nat} {xs : List Int} (hi : rs[i]? = some (.slice A xs.length c, xs)) : xs.length ≤ c := (Kd.R_reads' (h.row i hi)).2.1
/-- a row that came in, read later -/
theorem old (h : Owns w W l rs) {A : Option Addr} {n : Nat} {xs : List Int} (hC : Kd.C (Kd.int .u8) w A n xs) : Kd.C (Kd.int .u8) W A n xs := Kd.C_below hC h.below
/-- a call, or anything that changes no block that was there -/
theorem step (h : Owns w W l rs) (hb : Below W.heap.size W w1) : Owns w w1 l rs :=
  ⟨below_step h.below hb, h.base, fun x hx => (hb.block x.1 (h.lt hx)).trans (h.blk x hx), h.apart, h.no5, fun x hx => Kd.R_below (h.rows x hx) hb⟩
theorem drew (h : Owns w W l rs) : Owns w W.drew l rs := h.step (below_drew1 (Below.refl _ _))
theorem drewN (h : Owns w W l rs) (n : Nat) : Owns w (W.drewN n) l rs := h.step (pw_below_drewN (Below.refl _ _) n)
theorem drawn (h : Owns w W l rs) (hd : Drawn0 W w1) : Owns w w1 l rs := by
  obtain ⟨n, rfl⟩ := hd
  exact h.drewN n
/-- a row that a call has made -/
theorem addrow (h : Owns w W l rs) {B : Nat} {ok : Nat → Prop} {v : Value} {xs : List Int} (hr : Kd.R (Kd.int .u8) 5 W B ok v xs) (hB : w.heap.size ≤ B) : Owns w W l ((v, xs) :: rs) :=
  ⟨h.below, h.base, h.blk, h.apart, h.no5, fun x hx => by
    rcases List.mem_cons.1 hx with rfl | hx
    · exact Kd.R_mono (Kd.R_lower hr hB) (fun _ _ => trivial)
    · exact h.rows x hx⟩
theorem call1 (h : Owns w W l rs) (hb : Below W.heap.size W w1) {ok : Nat → Prop} {v : Value} {xs : List Int} (hr : Kd.R (Kd.int .u8) 5 w1 W.heap.size ok v xs) : Owns w w1 l ((v, xs) :: rs) := (h.step hb).addrow hr h.below.size
theorem call2 (h : Owns w W l rs) (hb : Below W.heap.size W w1) {ok ok' : Nat → Prop} {v v' : Value} {xs xs' : List Int} (hr : Kd.R (Kd.int .u8) 5 w1 W.heap.size ok v xs) (hr' : Kd.R (Kd.int .u8) 5 w1 W.heap.size ok' v' xs') : Owns w w1 l ((v', xs') :: (v, xs) :: rs) := (h.call1 hb hr).addrow hr' h.below.size
/-- a new block -/
theorem new (h : Owns w W l rs) (ht : t ≠ 5) (hg : g = W.heap.size) (hn : w1.heap[g]? = some (.cells cs t (0, 0))) (hb : Below W.heap.size W w1) : Owns w w1 ((g, cs, t) :: l) rs := by
  have h1 := h.step hb
  refine ⟨h1.below, ?_, ?_, ?_, ?_, h1.rows⟩
  · intro x hx
    rcases List.mem_cons.1 hx with rfl | hx
    · have := h.below.size; show w.heap.size ≤ g; omega
    · exact h.base x hx
  · intro x hx
    rcases List.mem_cons.1 hx with rfl | hx
    · exact hn
    · exact h1.blk x hx
  · refine List.Pairwise.cons ?_ h.apart
    intro k hk
    obtain ⟨x, hx, rfl⟩ := List.mem_map.1 hk
    have := h.lt hx
    show g ≠ x.1
    omega
  · intro x hx
    rcases List.mem_cons.1 hx with rfl | hx
    · exact ht
    · exact h.no5 x hx
theorem put_aux : ∀ {l : List Blk} (i : Nat) {g : Nat} {old cs : Array Value} {t : TypeId}, l[i]? = some (g, old, t) → (l.map (·.1)).Pairwise (· ≠ ·) → ∀ x ∈ l.set i (g, cs, t), x = (g, cs, t) ∨ (x ∈ l ∧ x.1 ≠ g)
  | [], i, g, old, cs, t, h, _, x, hx => by simp at h
  | y :: l, 0, g, old, cs, t, h, hp, x, hx => by
    have e : y = (g, old, t) := by simpa using h
    subst e
    rw [List.set_cons_zero] at hx
    rcases List.mem_cons.1 hx with rfl | hx
    · exact .inl rfl
    · refine .inr ⟨List.mem_cons_of_mem _ hx, ?_⟩
      rw [List.map_cons] at hp
      exact fun e => (List.pairwise_cons.1 hp).1 x.1 (List.mem_map.2 ⟨x, hx, rfl⟩) e.symm
  | y :: l, i + 1, g, old, cs, t, h, hp, x, hx => by
    rw [List.set_cons_succ] at hx
    rw [List.map_cons] at hp
    have hi : l[i]? = some (g, old, t) := by simpa using h
    rcases List.mem_cons.1 hx with rfl | hx
    · refine .inr ⟨List.mem_cons_self, ?_⟩
      exact (List.pairwise_cons.1 hp).1 g (List.mem_map.2 ⟨_, List.mem_of_getElem? hi, rfl⟩)
    · rcases put_aux i hi (List.pairwise_cons.1 hp).2 x hx with h1 | ⟨h1, h2⟩
      · exact .inl h1
      · exact .inr ⟨List.mem_cons_of_mem _ h1, h2⟩
/-- block number i has been written -/
theorem put (h : Owns w W l rs) (i : Nat) {old : Array Value} (hi : l[i]? = some (g, old, t)) (hp : PutAt W w1 g) (hn : w1.heap[g]? = some (.cells cs t (0, 0))) : Owns w w1 (l.set i (g, cs, t)) rs := by
  have hm0 := List.mem_of_getElem? hi
  have hg : w.heap.size ≤ g := h.base _ hm0
  have ht : t ≠ 5 := h.no5 _ hm0
  have hm := put_aux (cs := cs) i hi h.apart
  refine ⟨hp.below h.below hg, ?_, ?_, ?_, ?_, fun x hx => R_put5 (h.rows x hx) (h.blk _ hm0) ht hp⟩
  · intro x hx
    rcases hm x hx with rfl | ⟨h1, _⟩
    · exact hg
    · exact h.base x h1
  · intro x hx
    rcases hm x hx with rfl | ⟨h1, h2⟩
    · exact hn
    · exact (hp.block x.1 h2).trans (h.blk x h1)
  · have e : (l.set i (g, cs, t)).map (·.1) = l.map (·.1) := by
      rw [List.map_set]
      refine List.ext_getElem? fun k => ?_
      rw [List.getElem?_set]
      split
      · rename_i hk
        subst hk
        rw [List.getElem?_map, hi]
        have : i < l.length := (List.getElem?_eq_some_iff.1 hi).1
        rw [if_pos (by simpa using this)]
        rfl
      · rfl
    rw [e]
    exact h.apart
  · intro x hx
    rcases hm x hx with rfl | ⟨h1, _⟩
    · exact ht
    · exact h.no5 x h1
/-- what a walk reads: each listed block's cells -/
def Facts (W : World) : List Blk → Prop
  | [] => True
  | (g, cs, _) :: l => (∀ j, W.cell? ⟨g, j, none⟩ = cs[j]?) ∧ (∀ j, W.frozen? ⟨g, j, none⟩ = false) ∧ Facts W l
theorem facts_of {W : World} : ∀ {l : List Blk}, (∀ x ∈ l, W.heap[x.1]? = some (.cells x.2.1 x.2.2 (0, 0))) → Facts W l
  | [], _ => trivial
  | (g, cs, t) :: l, h => ⟨fun j => cell_of_row W g j cs t (0, 0) (h _ List.mem_cons_self), fun j => frozen_of_row W g j cs t (h _ List.mem_cons_self), facts_of fun x hx => h x (List.mem_cons_of_mem _ hx)⟩
theorem facts (h : Owns w W l rs) : Facts W l := facts_of h.blk
end Owns
section
variable {P : Program} {ops : Array Oper} {rest : List Oper} {o : Oper} {a : Act} {Q : Exit → Act → World → Prop} {w W : World} {l : List Blk} {rs : List Rw}
theorem ow_box (HO : Aside0 (Owns w W l rs)) (hgd : o.guard = none) {N : Tmp} (hd : o.dst = some N) (cs : Array Value) (t : TypeId)
    (hrun : (execOp a.eval o).run P W = .ok (.value (.pointer (some ⟨W.heap.size, 0, none⟩))) (W.alloc (.cells cs t (0, 0)))) (ht : (t == 5) = false)
    (h : ∀ g w1, Aside0 (Owns w w1 ((g, cs, t) :: l) rs) → wpList P ops Q rest (a.put o.dst (.pointer (some ⟨g, 0, none⟩))) w1) : wpList P ops Q (o :: rest) a W :=
  box_event hgd hd hrun fun g hg w1 hn hb => h g w1 ⟨HO.out.new (by simpa using ht) hg hn hb⟩
theorem ow_put (HO : Aside0 (Owns w W l rs)) (hgd : o.guard = none) (hN : o.dst = none) (i : Nat) {g : Nat} {old : Array Value} {t : TypeId} (hi : l[i]? = some (g, old, t)) {ty : TypeId} {x y : Operand} (ho : o.op = .store ty x y)
    (cs : Array Value) (hx : a.eval x = .pointer (some ⟨g, 0, none⟩)) (hy : a.eval y = .agg cs) (hs : (P.info? ty).map (·.size) = some cs.size) (hold : old.size = cs.size) (h1 : cs.toList.all (·.oneCell') = true)
    (h : ∀ w1, Aside0 (Owns w w1 (l.set i (g, cs, t)) rs) → wpList P ops Q rest a w1) : wpList P ops Q (o :: rest) a W := by
  have hb := HO.out.at_ i hi
  refine wpList_store_row hgd ty x y ho g cs hx hy t old hb hs hold (by simpa using h1) ?_
  rw [hN]
  exact h _ ⟨HO.out.put i hi (PutAt.setRow W g cs) (setRow_heap W g old cs t _ hb)⟩
theorem ow_putc (HO : Aside0 (Owns w W l rs)) (hgd : o.guard = none) (hN : o.dst = none) (i : Nat) {g : Nat} {old : Array Value} {t : TypeId} (hi : l[i]? = some (g, old, t)) (j : Nat) (v : Value)
    (hrun : (execOp a.eval o).run P W = .ok .skip (W.setCell ⟨g, j, none⟩ v))
    (h : ∀ w1, Aside0 (Owns w w1 (l.set i (g, old.setIfInBounds j v, t)) rs) → wpList P ops Q rest a w1) : wpList P ops Q (o :: rest) a W := by
  have hb := HO.out.at_ i hi
  refine wpList_plain hgd fun K hK => ?_
  unfold Oper.wp
  rw [hrun]
  show K (a.put o.dst undef) _
  rw [hN]
  exact hK _ _ (h _ ⟨HO.out.put i hi (PutAt.setCell W g j v) (heap_setCell_same W g j old t v hb)⟩)
end
end Go.Proofs.YtbpnienknijogaaW.PrintWords
