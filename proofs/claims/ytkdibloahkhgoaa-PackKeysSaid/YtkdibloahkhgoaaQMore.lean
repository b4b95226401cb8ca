/- blocks that a call has made and knows whole, kept in one list beside the world: each event (a new block, a store of a whole struct or of one cell, a call, a draw) moves the list. No condition. -/
import Derived.Test.YtkdibloahkhgoaaQCopy
import Derived.Test.YtkdibloahkhgoaaWMore
import Derived.Test.YtkdibloahkhgoaaWGuard
import Derived.Laws.Rows
namespace Go.Proofs.YtkdibloahkhgoaaW.PrintWords
open Go.RowKit Go.Proofs.YtkdibloahkhgoaaW.PrintLast
set_option linter.unusedVariables false

/-- one block has been written, nothing else -/
structure PutAt (W w1 : World) (g : Nat) : Prop where
  os : w1.os = W.os
  tape : w1.tape = W.tape
  output : w1.output = W.output
  size : w1.heap.size = W.heap.size
  block : ∀ k, k ≠ g → w1.heap[k]? = W.heap[k]?
theorem PutAt.setCell (W : World) (g i : Nat) (v : Value) : PutAt W (W.setCell ⟨g, i, none⟩ v) g :=
  ⟨rfl, rfl, rfl, by simp [World.setCell], fun k hk => heap_setCell_other W ⟨g, i, none⟩ k v hk⟩
/-- a row of bytes stays where its own block does -/
theorem row_move {W w1 : World} {base base' : Nat} {ok : Nat → Prop} {v : Value} {xs : List Int} (h : Kd.R (Kd.int .u8) 5 W base ok v xs) (hb : base' ≤ base) (hm : ∀ k, v.ownBlock = some k → w1.heap[k]? = W.heap[k]?) : Kd.R (Kd.int .u8) 5 w1 base' (fun _ => True) v xs :=
  Kd.R_mono (Kd.R_move (show Kd.R (Kd.int .u8) 5 W base' (fun k => v.ownBlock = some k) v xs from ⟨fun k hk => hk, (Kd.R_lower h hb).2⟩) hm) (fun _ _ => trivial)
theorem row_ne {W : World} {base : Nat} {ok : Nat → Prop} {v : Value} {xs : List Int} (h : Kd.R (Kd.int .u8) 5 W base ok v xs) {g : Nat} {t : TypeId} {cs : Array Value} (hb : W.heap[g]? = some (.cells cs t (0, 0))) (ht : t ≠ 5) : v.ownBlock ≠ some g := fun e => Kd.R_ne h hb (fun e => ht e.symm) e.symm

/-- a block's number, its cells, its type -/
abbrev Blk := Nat × Array Value × TypeId
/-- a row of bytes that the call has made -/
abbrev Rw := Value × List Int
/-- what the call has made or may write: of what stood at its begin all but block m is as it was; each listed block is as it is told, and no other one's; each listed row of bytes is as it is told -/
structure OwnsM (w W : World) (m : Nat) (l : List Blk) (rs : List Rw) : Prop where
  os : W.os = w.os
  tape : W.tape = w.tape
  output : W.output = w.output
  size : w.heap.size ≤ W.heap.size
  kept : ∀ k, k < w.heap.size → k ≠ m → W.heap[k]? = w.heap[k]?
  base : ∀ x ∈ l, w.heap.size ≤ x.1 ∨ x.1 = m
  blk : ∀ x ∈ l, W.heap[x.1]? = some (.cells x.2.1 x.2.2 (0, 0))
  apart : (l.map (·.1)).Pairwise (· ≠ ·)
  no5 : ∀ x ∈ l, x.2.2 ≠ 5
  rows : ∀ x ∈ rs, Kd.R (Kd.int .u8) 5 W w.heap.size (fun _ => True) x.1 x.2
  rapart : rs.Pairwise fun x y => ∀ k, x.1.ownBlock = some k → y.1.ownBlock ≠ some k
/-- nothing that stood at the begin may be written -/
abbrev Owns (w W : World) (l : List Blk) (rs : List Rw) : Prop := OwnsM w W w.heap.size l rs
/-- what a call leaves that may write one block of its caller's -/
structure Turned (w W : World) (g : Nat) (cs : Array Value) (t : TypeId) : Prop where
  os : W.os = w.os
  tape : W.tape = w.tape
  output : W.output = w.output
  size : w.heap.size ≤ W.heap.size
  kept : ∀ k, k < w.heap.size → k ≠ g → W.heap[k]? = w.heap[k]?
  blk : W.heap[g]? = some (.cells cs t (0, 0))
theorem noMem {α : Type} {P : α → Prop} : ∀ x ∈ ([] : List α), P x := fun _ h => (List.not_mem_nil h).elim
theorem Owns.nil_of {w W : World} (h : Below w.heap.size w W) : Owns w W [] [] := ⟨h.os, h.tape, h.output, h.size, fun k hk _ => h.block k hk, noMem, noMem, List.Pairwise.nil, noMem, noMem, List.Pairwise.nil⟩
theorem Owns.nil (w : World) : Owns w w [] [] := Owns.nil_of (Below.refl _ _)
theorem OwnsM.below {w W : World} {l : List Blk} {rs : List Rw} (h : OwnsM w W w.heap.size l rs) : Below w.heap.size w W := ⟨h.os, h.tape, h.output, h.size, fun k hk => h.kept k hk (by omega)⟩
/-- a row that came in, read later -/
theorem OwnsM.old {w W : World} {l : List Blk} {rs : List Rw} (h : OwnsM w W w.heap.size l rs) {A : Option Addr} {n : Nat} {xs : List Int} (hC : Kd.C (Kd.int .u8) w A n xs) : Kd.C (Kd.int .u8) W A n xs := Kd.C_below hC h.below
namespace OwnsM
variable {w W w1 : World} {m : Nat} {l : List Blk} {rs : List Rw} {g : Nat} {cs : Array Value} {t : TypeId}
theorem turned (h : OwnsM w W m l rs) (i : Nat) (hi : l[i]? = some (m, cs, t)) : Turned w W m cs t := ⟨h.os, h.tape, h.output, h.size, h.kept, h.blk _ (List.mem_of_getElem? hi)⟩
theorem lt (h : OwnsM w W m l rs) {x : Blk} (hx : x ∈ l) : x.1 < W.heap.size := (Array.getElem?_eq_some_iff.1 (h.blk x hx)).1
theorem at_ (h : OwnsM w W m l rs) (i : Nat) {x : Blk} (hi : l[i]? = some x) : W.heap[x.1]? = some (.cells x.2.1 x.2.2 (0, 0)) := h.blk x (List.mem_of_getElem? hi)
/-- row number i, read -/
theorem row (h : OwnsM w W m l rs) (i : Nat) {v : Value} {xs : List Int} (hi : rs[i]? = some (v, xs)) : Kd.R (Kd.int .u8) 5 W w.heap.size (fun _ => True) v xs := h.rows _ (List.mem_of_getElem? hi)
theorem rd (h : OwnsM w W m l rs) (i : Nat) {A : Option Addr} {c : Nat} {xs : List Int} (hi : rs[i]? = some (.slice A xs.length c, xs)) : Kd.C (Kd.int .u8) W A xs.length xs := (Kd.R_reads' (h.row i hi)).2.2
theorem cap (h : OwnsM w W m l rs) (i : Nat) {A : Option Addr} {c : Nat} {xs : List Int} (hi : rs[i]? = some (.slice A xs.length c, xs)) : xs.length ≤ c := (Kd.R_reads' (h.row i hi)).2.1
theorem cell (h : OwnsM w W m l rs) (i j : Nat) {x : Blk} (hi : l[i]? = some x) {v : Value} (hv : x.2.1[j]? = some v) : W.cell? ⟨x.1, j, none⟩ = some v := (cell_of_row W x.1 j _ _ _ (h.at_ i hi)).trans hv
/-- a call, or anything that changes no block that was there -/
theorem step (h : OwnsM w W m l rs) (hb : Below W.heap.size W w1) : OwnsM w w1 m l rs :=
  ⟨hb.os.trans h.os, hb.tape.trans h.tape, hb.output.trans h.output, Nat.le_trans h.size hb.size, fun k hk hm => (hb.block k (Nat.lt_of_lt_of_le hk h.size)).trans (h.kept k hk hm), h.base, fun x hx => (hb.block x.1 (h.lt hx)).trans (h.blk x hx), h.apart, h.no5, fun x hx => Kd.R_below (h.rows x hx) hb, h.rapart⟩
theorem drew (h : OwnsM w W m l rs) : OwnsM w W.drew m l rs := h.step (below_drew1 (Below.refl _ _))
theorem drewN (h : OwnsM w W m l rs) (n : Nat) : OwnsM w (W.drewN n) m l rs := h.step (pw_below_drewN (Below.refl _ _) n)
theorem drawn (h : OwnsM w W m l rs) (hd : Drawn0 W w1) : OwnsM w w1 m l rs := by
  obtain ⟨n, rfl⟩ := hd
  exact h.drewN n
/-- rows that nobody looks at any more -/
theorem drop (h : OwnsM w W m l rs) (n : Nat) : OwnsM w W m l (rs.drop n) := ⟨h.os, h.tape, h.output, h.size, h.kept, h.base, h.blk, h.apart, h.no5, fun x hx => h.rows x (List.mem_of_mem_drop hx), h.rapart.sublist (List.drop_sublist n rs)⟩
/-- a new block -/
theorem new (h : OwnsM w W m l rs) (ht : t ≠ 5) (hg : g = W.heap.size) (hn : w1.heap[g]? = some (.cells cs t (0, 0))) (hb : Below W.heap.size W w1) : OwnsM w w1 m ((g, cs, t) :: l) rs := by
  have h1 := h.step hb
  refine ⟨h1.os, h1.tape, h1.output, h1.size, h1.kept, ?_, ?_, ?_, ?_, h1.rows, h1.rapart⟩
  · intro x hx
    rcases List.mem_cons.1 hx with rfl | hx
    · have := h.size; exact .inl (by show w.heap.size ≤ g; omega)
    · exact h.base x hx
  · intro x hx
    rcases List.mem_cons.1 hx with rfl | hx
    · exact hn
    · exact h1.blk x hx
  · refine List.Pairwise.cons ?_ h.apart
    intro k hk
    obtain ⟨x, hx, rfl⟩ := List.mem_map.1 hk
    have := h.lt hx
    show g ≠ x.1
    omega
  · intro x hx
    rcases List.mem_cons.1 hx with rfl | hx
    · exact ht
    · exact h.no5 x hx
theorem put_aux : ∀ {l : List Blk} (i : Nat) {g : Nat} {old cs : Array Value} {t : TypeId}, l[i]? = some (g, old, t) → (l.map (·.1)).Pairwise (· ≠ ·) → ∀ x ∈ l.set i (g, cs, t), x = (g, cs, t) ∨ (x ∈ l ∧ x.1 ≠ g)
  | [], i, g, old, cs, t, h, _, x, hx => by simp at h
  | y :: l, 0, g, old, cs, t, h, hp, x, hx => by
    have e : y = (g, old, t) := by simpa using h
    subst e
    rw [List.set_cons_zero] at hx
    rcases List.mem_cons.1 hx with rfl | hx
    · exact .inl rfl
    · refine .inr ⟨List.mem_cons_of_mem _ hx, ?_⟩
      rw [List.map_cons] at hp
      exact fun e => (List.pairwise_cons.1 hp).1 x.1 (List.mem_map.2 ⟨x, hx, rfl⟩) e.symm
  | y :: l, i + 1, g, old, cs, t, h, hp, x, hx => by
    rw [List.set_cons_succ] at hx
    rw [List.map_cons] at hp
    have hi : l[i]? = some (g, old, t) := by simpa using h
    rcases List.mem_cons.1 hx with rfl | hx
    · refine .inr ⟨List.mem_cons_self, ?_⟩
      exact (List.pairwise_cons.1 hp).1 g (List.mem_map.2 ⟨_, List.mem_of_getElem? hi, rfl⟩)
    · rcases put_aux i hi (List.pairwise_cons.1 hp).2 x hx with h1 | ⟨h1, h2⟩
      · exact .inl h1
      · exact .inr ⟨List.mem_cons_of_mem _ h1, h2⟩
theorem put_map {i : Nat} {old : Array Value} (hi : l[i]? = some (g, old, t)) : (l.set i (g, cs, t)).map (·.1) = l.map (·.1) := by
  rw [List.map_set]
  refine List.ext_getElem? fun k => ?_
  rw [List.getElem?_set]
  split
  · rename_i hk
    subst hk
    rw [List.getElem?_map, hi]
    have : i < l.length := (List.getElem?_eq_some_iff.1 hi).1
    rw [if_pos (by simpa using this)]
    rfl
  · rfl
/-- block number i has been written, by a call that may have made more -/
theorem turn (h : OwnsM w W m l rs) (i : Nat) {old : Array Value} (hi : l[i]? = some (g, old, t)) (hp : Turned W w1 g cs t) : OwnsM w w1 m (l.set i (g, cs, t)) rs := by
  have hm0 := List.mem_of_getElem? hi
  have hg : w.heap.size ≤ g ∨ g = m := h.base _ hm0
  have ht : t ≠ 5 := h.no5 _ hm0
  have hm := put_aux (cs := cs) i hi h.apart
  refine ⟨hp.os.trans h.os, hp.tape.trans h.tape, hp.output.trans h.output, Nat.le_trans h.size hp.size, ?_, ?_, ?_, ?_, ?_, ?_, h.rapart⟩
  · intro k hk hkm
    have := h.size
    exact (hp.kept k (by omega) (by rcases hg with hg | hg <;> omega)).trans (h.kept k hk hkm)
  · intro x hx
    rcases hm x hx with rfl | ⟨h1, _⟩
    · exact hg
    · exact h.base x h1
  · intro x hx
    rcases hm x hx with rfl | ⟨h1, h2⟩
    · exact hp.blk
    · exact (hp.kept x.1 (h.lt h1) h2).trans (h.blk x h1)
  · rw [put_map hi]
    exact h.apart
  · intro x hx
    rcases hm x hx with rfl | ⟨h1, _⟩
    · exact ht
    · exact h.no5 x h1
  · intro x hx
    refine row_move (h.rows x hx) (Nat.le_refl _) fun k hk => hp.kept k (Kd.R_lt (h.rows x hx) k hk) fun e => ?_
    subst e
    exact row_ne (h.rows x hx) (h.blk _ hm0) ht hk
theorem _root_.Go.Proofs.YtkdibloahkhgoaaW.PrintWords.PutAt.turned (hp : PutAt W w1 g) (hn : w1.heap[g]? = some (.cells cs t (0, 0))) : Turned W w1 g cs t := ⟨hp.os, hp.tape, hp.output, by rw [hp.size]; exact Nat.le_refl _, fun k _ hk => hp.block k hk, hn⟩
theorem put (h : OwnsM w W m l rs) (i : Nat) {old : Array Value} (hi : l[i]? = some (g, old, t)) (hp : PutAt W w1 g) (hn : w1.heap[g]? = some (.cells cs t (0, 0))) : OwnsM w w1 m (l.set i (g, cs, t)) rs := h.turn i hi (hp.turned hn)
/-- what a walk reads: each listed block's cells -/
def Facts (W : World) : List Blk → Prop
  | [] => True
  | (g, cs, _) :: l => (∀ j, W.cell? ⟨g, j, none⟩ = cs[j]?) ∧ (∀ j, W.frozen? ⟨g, j, none⟩ = false) ∧ Facts W l
theorem facts_of {W : World} : ∀ {l : List Blk}, (∀ x ∈ l, W.heap[x.1]? = some (.cells x.2.1 x.2.2 (0, 0))) → Facts W l
  | [], _ => trivial
  | (g, cs, t) :: l, h => ⟨fun j => cell_of_row W g j cs t (0, 0) (h _ List.mem_cons_self), fun j => frozen_of_row W g j cs t (h _ List.mem_cons_self), facts_of fun x hx => h x (List.mem_cons_of_mem _ hx)⟩
theorem facts (h : OwnsM w W m l rs) : Facts W l := facts_of h.blk
end OwnsM
section
variable {P : Program} {ops : Array Oper} {rest : List Oper} {o : Oper} {a : Act} {Q : Exit → Act → World → Prop} {w W : World} {m : Nat} {l : List Blk} {rs : List Rw}
theorem ow_box (HO : Aside0 (OwnsM w W m l rs)) (hgd : o.guard = none) {N : Tmp} (hd : o.dst = some N) (cs : Array Value) (t : TypeId)
    (hrun : (execOp a.eval o).run P W = .ok (.value (.pointer (some ⟨W.heap.size, 0, none⟩))) (W.alloc (.cells cs t (0, 0)))) (ht : (t == 5) = false)
    (h : ∀ g w1, Aside0 (OwnsM w w1 m ((g, cs, t) :: l) rs) → wpList P ops Q rest (a.put o.dst (.pointer (some ⟨g, 0, none⟩))) w1) : wpList P ops Q (o :: rest) a W :=
  box_event hgd hd hrun fun g hg w1 hn hb => h g w1 ⟨HO.out.new (by simpa using ht) hg hn hb⟩
end
/-- a key that differs from another one, where pointers may be nil -/
def keyNe (κ : Addr → Int × Int × Int × Int × Int) : Option Addr → Option Addr → Bool
  | none, none => false
  | some ka, some kb => !((κ ka).1 == (κ kb).1 && ((κ ka).2.1 == (κ kb).2.1 && ((κ ka).2.2.1 == (κ kb).2.2.1 && ((κ ka).2.2.2.1 == (κ kb).2.2.2.1 && ((κ ka).2.2.2.2 == (κ kb).2.2.2.2)))))
  | _, _ => true
/-- the five cells at a pointer are as κ tells -/
def Pts (κ : Addr → Int × Int × Int × Int × Int) (w : World) (i : Option Addr) : Prop := ∀ a, i = some a → ∀ j v, ([.int .i64 (κ a).1, .int .u32 (κ a).2.1, .int .u32 (κ a).2.2.1, .int .i64 (κ a).2.2.2.1, .int .i64 (κ a).2.2.2.2] : List Value)[j]? = some v → w.cell? (a.add j) = some v
theorem Pts.below {κ : Addr → Int × Int × Int × Int × Int} {w w1 : World} {i : Option Addr} (h : Pts κ w i) (hb : Below w.heap.size w w1) : Pts κ w1 i := fun a e j v hv => pw_cell_below hb (h a e j v hv)
theorem not_t {x : Bool} (h : (!x) = true) : x = false := by
  cases x
  · rfl
  · cases h
theorem not_f {x : Bool} (h : ¬ (!x) = true) : x = true := by
  cases x
  · exact absurd rfl h
  · rfl
theorem exec_load_at {P : Program} {a : Act} {o : Oper} {w : World} (ty : TypeId) (x : Operand) (ho : o.op = .load ty x) {p : Addr} (hx : a.eval x = .pointer (some p)) {cs : List Value} {d : TypeDesc} (hc : ∀ j v, cs[j]? = some v → w.cell? (p.add j) = some v) (hu : P.underlying ty = some d)
    (hd : (match d with | .struct _ | .array _ _ => true | _ => false) = true) (hi : (P.info? ty).map (·.size) = some cs.length) : (execOp a.eval o).run P w = .ok (.value (.agg cs.toArray)) w := by
  have hl : (loadCells p cs.length).run P w = .ok cs.toArray w := run_loadCells_list (P := P) w p cs hc
  have hlv : (loadVar ty p).run P w = .ok (.agg cs.toArray) w := by
    cases hq : P.info? ty with
    | none => simp [hq] at hi
    | some i =>
      have hs : i.size = cs.length := by simpa [hq] using hi
      have hagg : (isAgg ty).run P w = .ok true w := by
        unfold isAgg
        rw [Sem.run_bind, run_underlying hu w]
        cases d <;> simp_all
      simp [loadVar, Sem.run_bind, hagg, sizeOf, typeInfo, hq, hs, hl]
  unfold execOp
  simp only [ho, hx, Instr.loadAt, Instr.sureAddr, Sem.run_bind, Sem.run_pure, Result.andThen_ok, hlv]
/-- a struct that is the first part of a block, or the whole one -/
theorem row_at {w : World} {g : Nat} {t : TypeId} {cs : Array Value} (hg : w.heap[g]? = some (.cells cs t (0, 0))) (n : Nat) {l : List Value} (hl : l = cs.toList.take n) : ∀ j v, l[j]? = some v → w.cell? ((⟨g, 0, none⟩ : Addr).add j) = some v := by
  intro j v hv
  have hadd : (⟨g, 0, none⟩ : Addr).add j = ⟨g, j, none⟩ := by unfold Addr.add; split <;> simp_all
  rw [hadd, cell_of_row w g j cs t (0, 0) hg]
  subst hl
  rw [List.getElem?_take] at hv
  split at hv
  · simpa using hv
  · cases hv

end Go.Proofs.YtkdibloahkhgoaaW.PrintWords
