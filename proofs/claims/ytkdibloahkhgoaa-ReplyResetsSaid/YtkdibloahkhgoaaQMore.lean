/- blocks that a call has made and knows whole, kept in one list beside the world: each event (a new block, a store of a whole struct or of one cell, a call, a draw) moves the list. No condition. -/
import Derived.Test.YtkdibloahkhgoaaQCopy
import Derived.Test.YtkdibloahkhgoaaWMore
import Derived.Test.YtkdibloahkhgoaaWInv
import Derived.Test.YtkdibloahkhgoaaWNEv
import Derived.Test.YtkdibloahkhgoaaWGuard
import Derived.Laws.Rows
namespace Go.Proofs.YtkdibloahkhgoaaW.PrintWords
open Go.RowKit Go.Proofs.YtkdibloahkhgoaaW.PrintLast
set_option linter.unusedVariables false

/-- one block has been written, nothing else -/
structure PutAt (W w1 : World) (g : Nat) : Prop where
  os : w1.os = W.os
  tape : w1.tape = W.tape
  output : w1.output = W.output
  size : w1.heap.size = W.heap.size
  block : ∀ k, k ≠ g → w1.heap[k]? = W.heap[k]?
theorem PutAt.setRow (W : World) (g : Nat) (cs : Array Value) : PutAt W (W.setRow g cs) g :=
  ⟨rfl, rfl, rfl, size_setRow W g cs, fun k hk => setRow_other W g k cs hk⟩
theorem PutAt.setCell (W : World) (g i : Nat) (v : Value) : PutAt W (W.setCell ⟨g, i, none⟩ v) g :=
  ⟨rfl, rfl, rfl, by simp [World.setCell], fun k hk => heap_setCell_other W ⟨g, i, none⟩ k v hk⟩
/-- a row of bytes stays where its own block does -/
theorem row_move {W w1 : World} {base base' : Nat} {ok : Nat → Prop} {v : Value} {xs : List Int} (h : Kd.R (Kd.int .u8) 5 W base ok v xs) (hb : base' ≤ base) (hm : ∀ k, v.ownBlock = some k → w1.heap[k]? = W.heap[k]?) : Kd.R (Kd.int .u8) 5 w1 base' (fun _ => True) v xs :=
  Kd.R_mono (Kd.R_move (show Kd.R (Kd.int .u8) 5 W base' (fun k => v.ownBlock = some k) v xs from ⟨fun k hk => hk, (Kd.R_lower h hb).2⟩) hm) (fun _ _ => trivial)
theorem row_ne {W : World} {base : Nat} {ok : Nat → Prop} {v : Value} {xs : List Int} (h : Kd.R (Kd.int .u8) 5 W base ok v xs) {g : Nat} {t : TypeId} {cs : Array Value} (hb : W.heap[g]? = some (.cells cs t (0, 0))) (ht : t ≠ 5) : v.ownBlock ≠ some g := fun e => Kd.R_ne h hb (fun e => ht e.symm) e.symm

/-- a block's number, its cells, its type -/
abbrev Blk := Nat × Array Value × TypeId
/-- a row of bytes that the call has made -/
abbrev Rw := Value × List Int
/-- what the call has made or may write: of what stood at its begin all but block m is as it was; each listed block is as it is told, and no other one's; each listed row of bytes is as it is told -/
structure OwnsM (w W : World) (m : Nat) (l : List Blk) (rs : List Rw) : Prop where
  os : W.os = w.os
  tape : W.tape = w.tape
  output : W.output = w.output
  size : w.heap.size ≤ W.heap.size
  kept : ∀ k, k < w.heap.size → k ≠ m → W.heap[k]? = w.heap[k]?
  base : ∀ x ∈ l, w.heap.size ≤ x.1 ∨ x.1 = m
  blk : ∀ x ∈ l, W.heap[x.1]? = some (.cells x.2.1 x.2.2 (0, 0))
  apart : (l.map (·.1)).Pairwise (· ≠ ·)
  no5 : ∀ x ∈ l, x.2.2 ≠ 5
  rows : ∀ x ∈ rs, Kd.R (Kd.int .u8) 5 W w.heap.size (fun _ => True) x.1 x.2
  rapart : rs.Pairwise fun x y => ∀ k, x.1.ownBlock = some k → y.1.ownBlock ≠ some k
/-- nothing that stood at the begin may be written -/
abbrev Owns (w W : World) (l : List Blk) (rs : List Rw) : Prop := OwnsM w W w.heap.size l rs
/-- what a call leaves that may write one block of its caller's -/
structure Turned (w W : World) (g : Nat) (cs : Array Value) (t : TypeId) : Prop where
  os : W.os = w.os
  tape : W.tape = w.tape
  output : W.output = w.output
  size : w.heap.size ≤ W.heap.size
  kept : ∀ k, k < w.heap.size → k ≠ g → W.heap[k]? = w.heap[k]?
  blk : W.heap[g]? = some (.cells cs t (0, 0))
theorem noMem {α : Type} {P : α → Prop} : ∀ x ∈ ([] : List α), P x := fun _ h => (List.not_mem_nil h).elim
theorem Owns.nil_of {w W : World} (h : Below w.heap.size w W) : Owns w W [] [] := ⟨h.os, h.tape, h.output, h.size, fun k hk _ => h.block k hk, noMem, noMem, List.Pairwise.nil, noMem, noMem, List.Pairwise.nil⟩
theorem Owns.nil (w : World) : Owns w w [] [] := Owns.nil_of (Below.refl _ _)
theorem Owns.two {w W : World} (hb : Below w.heap.size w W) {g g' : Nat} {cs cs' : Array Value} {t t' : TypeId} (h1 : W.heap[g]? = some (.cells cs t (0, 0))) (h2 : W.heap[g']? = some (.cells cs' t' (0, 0))) (b1 : w.heap.size ≤ g) (b2 : w.heap.size ≤ g') (hne : g ≠ g') (t1 : t ≠ 5) (t2 : t' ≠ 5) :
    Owns w W [(g, cs, t), (g', cs', t')] [] :=
  ⟨hb.os, hb.tape, hb.output, hb.size, fun k hk _ => hb.block k hk, fun x hx => by rcases List.mem_cons.1 hx with rfl | hx; exact .inl b1; rw [List.mem_singleton.1 hx]; exact .inl b2, fun x hx => by rcases List.mem_cons.1 hx with rfl | hx; exact h1; rw [List.mem_singleton.1 hx]; exact h2,
    List.Pairwise.cons (fun k hk => by rw [List.mem_singleton.1 hk]; exact hne) (List.pairwise_singleton _ _), fun x hx => by rcases List.mem_cons.1 hx with rfl | hx; exact t1; rw [List.mem_singleton.1 hx]; exact t2, noMem, List.Pairwise.nil⟩
theorem Owns.one_own {w W : World} (hb : Below w.heap.size w W) {g : Nat} {cs : Array Value} {t : TypeId} (h1 : W.heap[g]? = some (.cells cs t (0, 0))) (b1 : w.heap.size ≤ g) (t1 : t ≠ 5) : Owns w W [(g, cs, t)] [] :=
  ⟨hb.os, hb.tape, hb.output, hb.size, fun k hk _ => hb.block k hk, fun x hx => by rw [List.mem_singleton.1 hx]; exact .inl b1, fun x hx => by rw [List.mem_singleton.1 hx]; exact h1, List.pairwise_singleton _ _, fun x hx => by rw [List.mem_singleton.1 hx]; exact t1, noMem, List.Pairwise.nil⟩
theorem OwnsM.below {w W : World} {l : List Blk} {rs : List Rw} (h : OwnsM w W w.heap.size l rs) : Below w.heap.size w W := ⟨h.os, h.tape, h.output, h.size, fun k hk => h.kept k hk (by omega)⟩
/-- a row that came in, read later -/
theorem OwnsM.old {w W : World} {l : List Blk} {rs : List Rw} (h : OwnsM w W w.heap.size l rs) {A : Option Addr} {n : Nat} {xs : List Int} (hC : Kd.C (Kd.int .u8) w A n xs) : Kd.C (Kd.int .u8) W A n xs := Kd.C_below hC h.below
/-- a block that came in and may be written -/
theorem OwnsM.one {w : World} {m : Nat} {cs : Array Value} {t : TypeId} (hb : w.heap[m]? = some (.cells cs t (0, 0))) (ht : (t == 5) = false) : OwnsM w w m [(m, cs, t)] [] :=
  ⟨rfl, rfl, rfl, Nat.le_refl _, fun _ _ _ => rfl, fun x hx => by rw [List.mem_singleton.1 hx]; exact .inr rfl, fun x hx => by rw [List.mem_singleton.1 hx]; exact hb, List.pairwise_singleton _ _, fun x hx => by rw [List.mem_singleton.1 hx]; simpa using ht, noMem, List.Pairwise.nil⟩
namespace OwnsM
variable {w W w1 : World} {m : Nat} {l : List Blk} {rs : List Rw} {g : Nat} {cs : Array Value} {t : TypeId}
theorem turned (h : OwnsM w W m l rs) (i : Nat) (hi : l[i]? = some (m, cs, t)) : Turned w W m cs t := ⟨h.os, h.tape, h.output, h.size, h.kept, h.blk _ (List.mem_of_getElem? hi)⟩
theorem lt (h : OwnsM w W m l rs) {x : Blk} (hx : x ∈ l) : x.1 < W.heap.size := (Array.getElem?_eq_some_iff.1 (h.blk x hx)).1
theorem at_ (h : OwnsM w W m l rs) (i : Nat) {x : Blk} (hi : l[i]? = some x) : W.heap[x.1]? = some (.cells x.2.1 x.2.2 (0, 0)) := h.blk x (List.mem_of_getElem? hi)
/-- row number i, read -/
theorem row (h : OwnsM w W m l rs) (i : Nat) {v : Value} {xs : List Int} (hi : rs[i]? = some (v, xs)) : Kd.R (Kd.int .u8) 5 W w.heap.size (fun _ => True) v xs := h.rows _ (List.mem_of_getElem? hi)
theorem rd (h : OwnsM w W m l rs) (i : Nat) {A : Option Addr} {c : Nat} {xs : List Int} (hi : rs[i]? = some (.slice A xs.length c, xs)) : Kd.C (Kd.int .u8) W A xs.length xs := (Kd.R_reads' (h.row i hi)).2.2
theorem cap (h : OwnsM w W m l rs) (i : Nat) {A : Option Addr} {c : Nat} {xs : List Int} (hi : rs[i]? = some (.slice A xs.length c, xs)) : xs.length ≤ c := (Kd.R_reads' (h.row i hi)).2.1
theorem cell (h : OwnsM w W m l rs) (i j : Nat) {x : Blk} (hi : l[i]? = some x) {v : Value} (hv : x.2.1[j]? = some v) : W.cell? ⟨x.1, j, none⟩ = some v := (cell_of_row W x.1 j _ _ _ (h.at_ i hi)).trans hv
/-- a byte of row number i -/
theorem rowcell (h : OwnsM w W m l rs) (i : Nat) {g n c : Nat} {xs : List Int} (hi : rs[i]? = some (.slice (some ⟨g, 0, none⟩) n c, xs)) (j : Nat) (hj : j < xs.length) : W.cell? ⟨g, j, none⟩ = some (.int .u8 (PrintWords.rd xs j)) ∧ W.frozen? ⟨g, j, none⟩ = false := by
  have hr := h.row i hi
  obtain ⟨A, c', e, _, _⟩ := Kd.R_reads hr
  have en : n = xs.length := by injection e
  have := Kd.R_celln 0 hr (j : Int) (by omega) (by omega)
  rw [Int.toNat_natCast] at this
  exact this
theorem rowform (h : OwnsM w W m l rs) (i : Nat) {v : Value} {xs : List Int} (hi : rs[i]? = some (v, xs)) (hp : 0 < xs.length) : ∃ g c, v = .slice (some ⟨g, 0, none⟩) xs.length c := by
  obtain ⟨g, c, e, _⟩ := Kd.R_form (h.row i hi) hp
  exact ⟨g, c, e⟩
/-- a row and another one: apart -/
theorem rowapart (h : OwnsM w W m l rs) (i j : Nat) (hij : (i == j) = false) {v v' : Value} {xs xs' : List Int} (hi : rs[i]? = some (v, xs)) (hj : rs[j]? = some (v', xs')) : Kd.R (Kd.int .u8) 5 W w.heap.size (fun k_ => some k_ ≠ (v' : Value).ownBlock) v xs := by
  have hr := h.row i hi
  refine ⟨fun k hk e => ?_, hr.2⟩
  have hne : i ≠ j := by simpa using hij
  obtain ⟨hi1, hi2⟩ := List.getElem?_eq_some_iff.1 hi
  obtain ⟨hj1, hj2⟩ := List.getElem?_eq_some_iff.1 hj
  have hp := List.pairwise_iff_getElem.1 h.rapart
  rcases Nat.lt_or_ge i j with hlt | hge
  · have := hp i j hi1 hj1 hlt k (by rw [hi2]; exact hk)
    rw [hj2] at this
    exact this e.symm
  · have := hp j i hj1 hi1 (by omega) k (by rw [hj2]; exact e.symm)
    rw [hi2] at this
    exact this hk
/-- one row alone is kept -/
theorem keep1 (h : OwnsM w W m l rs) (i : Nat) {x : Rw} (hi : rs[i]? = some x) : OwnsM w W m l [x] := ⟨h.os, h.tape, h.output, h.size, h.kept, h.base, h.blk, h.apart, h.no5, fun y hy => by rw [List.mem_singleton.1 hy]; exact h.rows x (List.mem_of_getElem? hi), List.pairwise_singleton _ _⟩
/-- a cell of an elder block -/
theorem cell_old (h : OwnsM w W m l rs) {a : Addr} {v : Value} (hc : w.cell? a = some v) (hm : a.block ≠ m) : W.cell? a = some v := by
  have hk := h.kept a.block (block_lt_of_cell hc) hm
  rw [← hc]
  unfold World.cell?
  rw [hk]
/-- a row that came in, read later, where a block may be written that holds no byte -/
theorem oldm (h : OwnsM w W m l rs) {A : Option Addr} {n : Nat} {xs : List Int} (hC : Kd.C (Kd.int .u8) w A n xs) {cm : Array Value} {tm : TypeId} (hb : w.heap[m]? = some (.cells cm tm (0, 0))) (hn : ∀ v ∈ cm.toList, ∀ x, v ≠ .int .u8 x) : Kd.C (Kd.int .u8) W A n xs := by
  obtain ⟨h1, h2, h3⟩ := hC
  refine ⟨h1, h2, fun h0 => ?_⟩
  obtain ⟨ad, e, hc⟩ := h3 h0
  refine ⟨ad, e, fun j p hp => ?_⟩
  obtain ⟨c, hs, hr, hcell⟩ := hc j p hp
  refine ⟨c, hs, hr, fun i u hu => ?_⟩
  have hq := hcell i u hu
  refine h.cell_old hq fun hbm => ?_
  have eu : u = .int .u8 p := by
    have hr' : c = [.int .u8 p] := hr
    rw [hr'] at hu
    cases i with
    | zero => simpa using hu.symm
    | succ i => simp at hu
  subst eu
  unfold World.cell? at hq
  rw [hbm, hb] at hq
  have hz : cm.toList[(ad.add (j * (Kd.int .u8).sz + i)).off]? = some (Value.int .u8 p) := by
    rw [Array.getElem?_toList]
    have hq' := hq
    simp at hq'
    exact hq'.2
  exact hn _ (List.mem_of_getElem? hz) p rfl
/-- a call, or anything that changes no block that was there -/
theorem step (h : OwnsM w W m l rs) (hb : Below W.heap.size W w1) : OwnsM w w1 m l rs :=
  ⟨hb.os.trans h.os, hb.tape.trans h.tape, hb.output.trans h.output, Nat.le_trans h.size hb.size, fun k hk hm => (hb.block k (Nat.lt_of_lt_of_le hk h.size)).trans (h.kept k hk hm), h.base, fun x hx => (hb.block x.1 (h.lt hx)).trans (h.blk x hx), h.apart, h.no5, fun x hx => Kd.R_below (h.rows x hx) hb, h.rapart⟩
theorem drew (h : OwnsM w W m l rs) : OwnsM w W.drew m l rs := h.step (below_drew1 (Below.refl _ _))
theorem drewN (h : OwnsM w W m l rs) (n : Nat) : OwnsM w (W.drewN n) m l rs := h.step (pw_below_drewN (Below.refl _ _) n)
theorem drawn (h : OwnsM w W m l rs) (hd : Drawn0 W w1) : OwnsM w w1 m l rs := by
  obtain ⟨n, rfl⟩ := hd
  exact h.drewN n
/-- a row that a call has made -/
theorem addrow (h : OwnsM w W m l rs) {B : Nat} {ok : Nat → Prop} {v : Value} {xs : List Int} (hr : Kd.R (Kd.int .u8) 5 W B ok v xs) (hB : w.heap.size ≤ B) (ha : ∀ x ∈ rs, ∀ k, v.ownBlock = some k → x.1.ownBlock ≠ some k) : OwnsM w W m l ((v, xs) :: rs) :=
  ⟨h.os, h.tape, h.output, h.size, h.kept, h.base, h.blk, h.apart, h.no5, fun x hx => by
    rcases List.mem_cons.1 hx with rfl | hx
    · exact Kd.R_mono (Kd.R_lower hr hB) (fun _ _ => trivial)
    · exact h.rows x hx, List.Pairwise.cons ha h.rapart⟩
theorem call1 (h : OwnsM w W m l rs) (hb : Below W.heap.size W w1) {ok : Nat → Prop} {v : Value} {xs : List Int} (hr : Kd.R (Kd.int .u8) 5 w1 W.heap.size ok v xs) : OwnsM w w1 m l ((v, xs) :: rs) :=
  (h.step hb).addrow hr h.size fun x hx k hk e => by
    have h1 := Kd.R_base hr k hk
    have h2 := Kd.R_lt (h.rows x hx) k e
    omega
theorem call2 (h : OwnsM w W m l rs) (hb : Below W.heap.size W w1) {ok' : Nat → Prop} {v v' : Value} {xs xs' : List Int} (hr : Kd.R (Kd.int .u8) 5 w1 W.heap.size (fun k_ => some k_ ≠ (v' : Value).ownBlock) v xs) (hr' : Kd.R (Kd.int .u8) 5 w1 W.heap.size ok' v' xs') : OwnsM w w1 m l ((v', xs') :: (v, xs) :: rs) :=
  (h.call1 hb hr).addrow hr' h.size fun x hx k hk e => by
    rcases List.mem_cons.1 hx with rfl | hx
    · exact hr.1 k e hk.symm
    · have h1 := Kd.R_base hr' k hk
      have h2 := Kd.R_lt (h.rows x hx) k e
      omega
/-- rows that nobody looks at any more -/
theorem drop (h : OwnsM w W m l rs) (n : Nat) : OwnsM w W m l (rs.drop n) := ⟨h.os, h.tape, h.output, h.size, h.kept, h.base, h.blk, h.apart, h.no5, fun x hx => h.rows x (List.mem_of_mem_drop hx), h.rapart.sublist (List.drop_sublist n rs)⟩
/-- a new block -/
theorem new (h : OwnsM w W m l rs) (ht : t ≠ 5) (hg : g = W.heap.size) (hn : w1.heap[g]? = some (.cells cs t (0, 0))) (hb : Below W.heap.size W w1) : OwnsM w w1 m ((g, cs, t) :: l) rs := by
  have h1 := h.step hb
  refine ⟨h1.os, h1.tape, h1.output, h1.size, h1.kept, ?_, ?_, ?_, ?_, h1.rows, h1.rapart⟩
  · intro x hx
    rcases List.mem_cons.1 hx with rfl | hx
    · have := h.size; exact .inl (by show w.heap.size ≤ g; omega)
    · exact h.base x hx
  · intro x hx
    rcases List.mem_cons.1 hx with rfl | hx
    · exact hn
    · exact h1.blk x hx
  · refine List.Pairwise.cons ?_ h.apart
    intro k hk
    obtain ⟨x, hx, rfl⟩ := List.mem_map.1 hk
    have := h.lt hx
    show g ≠ x.1
    omega
  · intro x hx
    rcases List.mem_cons.1 hx with rfl | hx
    · exact ht
    · exact h.no5 x hx
theorem put_aux : ∀ {l : List Blk} (i : Nat) {g : Nat} {old cs : Array Value} {t : TypeId}, l[i]? = some (g, old, t) → (l.map (·.1)).Pairwise (· ≠ ·) → ∀ x ∈ l.set i (g, cs, t), x = (g, cs, t) ∨ (x ∈ l ∧ x.1 ≠ g)
  | [], i, g, old, cs, t, h, _, x, hx => by simp at h
  | y :: l, 0, g, old, cs, t, h, hp, x, hx => by
    have e : y = (g, old, t) := by simpa using h
    subst e
    rw [List.set_cons_zero] at hx
    rcases List.mem_cons.1 hx with rfl | hx
    · exact .inl rfl
    · refine .inr ⟨List.mem_cons_of_mem _ hx, ?_⟩
      rw [List.map_cons] at hp
      exact fun e => (List.pairwise_cons.1 hp).1 x.1 (List.mem_map.2 ⟨x, hx, rfl⟩) e.symm
  | y :: l, i + 1, g, old, cs, t, h, hp, x, hx => by
    rw [List.set_cons_succ] at hx
    rw [List.map_cons] at hp
    have hi : l[i]? = some (g, old, t) := by simpa using h
    rcases List.mem_cons.1 hx with rfl | hx
    · refine .inr ⟨List.mem_cons_self, ?_⟩
      exact (List.pairwise_cons.1 hp).1 g (List.mem_map.2 ⟨_, List.mem_of_getElem? hi, rfl⟩)
    · rcases put_aux i hi (List.pairwise_cons.1 hp).2 x hx with h1 | ⟨h1, h2⟩
      · exact .inl h1
      · exact .inr ⟨List.mem_cons_of_mem _ h1, h2⟩
theorem put_map {i : Nat} {old : Array Value} (hi : l[i]? = some (g, old, t)) : (l.set i (g, cs, t)).map (·.1) = l.map (·.1) := by
  rw [List.map_set]
  refine List.ext_getElem? fun k => ?_
  rw [List.getElem?_set]
  split
  · rename_i hk
    subst hk
    rw [List.getElem?_map, hi]
    have : i < l.length := (List.getElem?_eq_some_iff.1 hi).1
    rw [if_pos (by simpa using this)]
    rfl
  · rfl
/-- block number i has been written, by a call that may have made more -/
theorem turn (h : OwnsM w W m l rs) (i : Nat) {old : Array Value} (hi : l[i]? = some (g, old, t)) (hp : Turned W w1 g cs t) : OwnsM w w1 m (l.set i (g, cs, t)) rs := by
  have hm0 := List.mem_of_getElem? hi
  have hg : w.heap.size ≤ g ∨ g = m := h.base _ hm0
  have ht : t ≠ 5 := h.no5 _ hm0
  have hm := put_aux (cs := cs) i hi h.apart
  refine ⟨hp.os.trans h.os, hp.tape.trans h.tape, hp.output.trans h.output, Nat.le_trans h.size hp.size, ?_, ?_, ?_, ?_, ?_, ?_, h.rapart⟩
  · intro k hk hkm
    have := h.size
    exact (hp.kept k (by omega) (by rcases hg with hg | hg <;> omega)).trans (h.kept k hk hkm)
  · intro x hx
    rcases hm x hx with rfl | ⟨h1, _⟩
    · exact hg
    · exact h.base x h1
  · intro x hx
    rcases hm x hx with rfl | ⟨h1, h2⟩
    · exact hp.blk
    · exact (hp.kept x.1 (h.lt h1) h2).trans (h.blk x h1)
  · rw [put_map hi]
    exact h.apart
  · intro x hx
    rcases hm x hx with rfl | ⟨h1, _⟩
    · exact ht
    · exact h.no5 x h1
  · intro x hx
    refine row_move (h.rows x hx) (Nat.le_refl _) fun k hk => hp.kept k (Kd.R_lt (h.rows x hx) k hk) fun e => ?_
    subst e
    exact row_ne (h.rows x hx) (h.blk _ hm0) ht hk
theorem _root_.Go.Proofs.YtkdibloahkhgoaaW.PrintWords.PutAt.turned (hp : PutAt W w1 g) (hn : w1.heap[g]? = some (.cells cs t (0, 0))) : Turned W w1 g cs t := ⟨hp.os, hp.tape, hp.output, by rw [hp.size]; exact Nat.le_refl _, fun k _ hk => hp.block k hk, hn⟩
theorem put (h : OwnsM w W m l rs) (i : Nat) {old : Array Value} (hi : l[i]? = some (g, old, t)) (hp : PutAt W w1 g) (hn : w1.heap[g]? = some (.cells cs t (0, 0))) : OwnsM w w1 m (l.set i (g, cs, t)) rs := h.turn i hi (hp.turned hn)
theorem set_rw : ∀ {rs : List Rw} (i : Nat) {v v1 : Value} {xs ys : List Int}, rs[i]? = some (v, xs) → (rs.Pairwise fun x y => ∀ k, x.1.ownBlock = some k → y.1.ownBlock ≠ some k) →
    (∀ x ∈ rs.set i (v1, ys), x = (v1, ys) ∨ (x ∈ rs ∧ ∀ k, x.1.ownBlock = some k → v.ownBlock ≠ some k)) ∧
    ((∀ x ∈ rs, ∀ k, v1.ownBlock = some k → x.1.ownBlock = some k → v.ownBlock = some k) → (rs.set i (v1, ys)).Pairwise fun x y => ∀ k, x.1.ownBlock = some k → y.1.ownBlock ≠ some k)
  | [], i, v, v1, xs, ys, h, _ => by simp at h
  | y :: rs, 0, v, v1, xs, ys, h, hp => by
    have e : y = (v, xs) := by simpa using h
    subst e
    obtain ⟨p1, p2⟩ := List.pairwise_cons.1 hp
    rw [List.set_cons_zero]
    refine ⟨fun x hx => ?_, fun hn => ?_⟩
    · rcases List.mem_cons.1 hx with rfl | hx
      · exact .inl rfl
      · exact .inr ⟨List.mem_cons_of_mem _ hx, fun k hk e => p1 x hx k e hk⟩
    · exact List.Pairwise.cons (fun x hx k hk e => p1 x hx k (hn x (List.mem_cons_of_mem _ hx) k hk e) e) p2
  | y :: rs, i + 1, v, v1, xs, ys, h, hp => by
    have hi : rs[i]? = some (v, xs) := by simpa using h
    obtain ⟨p1, p2⟩ := List.pairwise_cons.1 hp
    obtain ⟨q1, q2⟩ := set_rw (v1 := v1) (ys := ys) i hi p2
    rw [List.set_cons_succ]
    refine ⟨fun x hx => ?_, fun hn => ?_⟩
    · rcases List.mem_cons.1 hx with rfl | hx
      · exact .inr ⟨List.mem_cons_self, fun k hk => p1 _ (List.mem_of_getElem? hi) k hk⟩
      · rcases q1 x hx with h1 | ⟨h1, h2⟩
        · exact .inl h1
        · exact .inr ⟨List.mem_cons_of_mem _ h1, h2⟩
    · refine List.Pairwise.cons (fun x hx k hk e => ?_) (q2 fun x hx => hn x (List.mem_cons_of_mem _ hx))
      rcases q1 x hx with rfl | ⟨h1, h2⟩
      · exact p1 _ (List.mem_of_getElem? hi) k hk (hn y List.mem_cons_self k e hk)
      · exact p1 x h1 k hk e
/-- row number i has been written, or has become another one -/
theorem grow (h : OwnsM w W m l rs) (i : Nat) {v v1 : Value} {xs ys : List Int} (hi : rs[i]? = some (v, xs)) (hr : Kd.R (Kd.int .u8) 5 w1 w.heap.size (fun _ => True) v1 ys) (hb : Below w.heap.size W w1) (hg : W.grownBy w1 v.ownBlock)
    (hat : v1.ownBlock = v.ownBlock ∨ ∃ b, v1.ownBlock = some b ∧ W.heap.size ≤ b) : OwnsM w w1 m l (rs.set i (v1, ys)) := by
  have hv := h.rows _ (List.mem_of_getElem? hi)
  obtain ⟨s1, s2⟩ := set_rw (v1 := v1) (ys := ys) i hi h.rapart
  refine ⟨hb.os.trans h.os, hb.tape.trans h.tape, hb.output.trans h.output, Nat.le_trans h.size hb.size, fun k hk hm => (hb.block k hk).trans (h.kept k hk hm), h.base, fun x hx => ?_, h.apart, h.no5, fun x hx => ?_, s2 fun x hx k hk e => ?_⟩
  · exact (hg.block x.1 (h.lt hx) (fun e => row_ne hv (h.blk x hx) (h.no5 x hx) e.symm)).trans (h.blk x hx)
  · rcases s1 x hx with rfl | ⟨h1, h2⟩
    · exact hr
    · exact row_move (h.rows x h1) (Nat.le_refl _) fun k hk => hg.block k (Kd.R_lt (h.rows x h1) k hk) fun e => h2 k hk e.symm
  · rcases hat with hat | ⟨b, hb1, hb2⟩
    · rw [← hat]; exact hk
    · have e1 : b = k := by rw [hb1] at hk; injection hk
      have := Kd.R_lt (h.rows x hx) k e
      omega
/-- what a walk reads: each listed block's cells -/
def Facts (W : World) : List Blk → Prop
  | [] => True
  | (g, cs, _) :: l => (∀ j, W.cell? ⟨g, j, none⟩ = cs[j]?) ∧ (∀ j, W.frozen? ⟨g, j, none⟩ = false) ∧ Facts W l
theorem facts_of {W : World} : ∀ {l : List Blk}, (∀ x ∈ l, W.heap[x.1]? = some (.cells x.2.1 x.2.2 (0, 0))) → Facts W l
  | [], _ => trivial
  | (g, cs, t) :: l, h => ⟨fun j => cell_of_row W g j cs t (0, 0) (h _ List.mem_cons_self), fun j => frozen_of_row W g j cs t (h _ List.mem_cons_self), facts_of fun x hx => h x (List.mem_cons_of_mem _ hx)⟩
theorem facts (h : OwnsM w W m l rs) : Facts W l := facts_of h.blk
end OwnsM
section
variable {P : Program} {ops : Array Oper} {rest : List Oper} {o : Oper} {a : Act} {Q : Exit → Act → World → Prop} {w W : World} {m : Nat} {l : List Blk} {rs : List Rw}
theorem ow_box (HO : Aside0 (OwnsM w W m l rs)) (hgd : o.guard = none) {N : Tmp} (hd : o.dst = some N) (cs : Array Value) (t : TypeId)
    (hrun : (execOp a.eval o).run P W = .ok (.value (.pointer (some ⟨W.heap.size, 0, none⟩))) (W.alloc (.cells cs t (0, 0)))) (ht : (t == 5) = false)
    (h : ∀ g w1, Aside0 (OwnsM w w1 m ((g, cs, t) :: l) rs) → wpList P ops Q rest (a.put o.dst (.pointer (some ⟨g, 0, none⟩))) w1) : wpList P ops Q (o :: rest) a W :=
  box_event hgd hd hrun fun g hg w1 hn hb => h g w1 ⟨HO.out.new (by simpa using ht) hg hn hb⟩
theorem ow_put (HO : Aside0 (OwnsM w W m l rs)) (hgd : o.guard = none) (hN : o.dst = none) (i : Nat) {g : Nat} {old : Array Value} {t : TypeId} (hi : l[i]? = some (g, old, t)) {ty : TypeId} {x y : Operand} (ho : o.op = .store ty x y)
    (cs : Array Value) (hx : a.eval x = .pointer (some ⟨g, 0, none⟩)) (hy : a.eval y = .agg cs) (hs : (P.info? ty).map (·.size) = some cs.size) (hold : old.size = cs.size) (h1 : cs.toList.all (·.oneCell') = true)
    (h : ∀ w1, Aside0 (OwnsM w w1 m (l.set i (g, cs, t)) rs) → wpList P ops Q rest a w1) : wpList P ops Q (o :: rest) a W := by
  have hb := HO.out.at_ i hi
  refine wpList_store_row hgd ty x y ho g cs hx hy t old hb hs hold (by simpa using h1) ?_
  rw [hN]
  exact h _ ⟨HO.out.put i hi (PutAt.setRow W g cs) (setRow_heap W g old cs t _ hb)⟩
theorem ow_putc (HO : Aside0 (OwnsM w W m l rs)) (hgd : o.guard = none) (hN : o.dst = none) (i : Nat) {g : Nat} {old : Array Value} {t : TypeId} (hi : l[i]? = some (g, old, t)) (j : Nat) (v : Value)
    (hrun : (execOp a.eval o).run P W = .ok .skip (W.setCell ⟨g, j, none⟩ v))
    (h : ∀ w1, Aside0 (OwnsM w w1 m (l.set i (g, old.setIfInBounds j v, t)) rs) → wpList P ops Q rest a w1) : wpList P ops Q (o :: rest) a W := by
  have hb := HO.out.at_ i hi
  refine wpList_plain hgd fun K hK => ?_
  unfold Oper.wp
  rw [hrun]
  show K (a.put o.dst undef) _
  rw [hN]
  exact hK _ _ (h _ ⟨HO.out.put i hi (PutAt.setCell W g j v) (heap_setCell_same W g j old t v hb)⟩)
/-- the same, as a step of a region that draws its order -/
theorem ow_put_step {K : Act → World → Prop} (HO : Aside0 (OwnsM w W m l rs)) (hw : Region.wanted o (yielded ops a.tmps) = true) (hN : o.dst = none) (i : Nat) {g : Nat} {old : Array Value} {t : TypeId} (hi : l[i]? = some (g, old, t)) {ty : TypeId} {x y : Operand} (ho : o.op = .store ty x y)
    (cs : Array Value) (hx : a.eval x = .pointer (some ⟨g, 0, none⟩)) (hy : a.eval y = .agg cs) (hs : (P.info? ty).map (·.size) = some cs.size) (hold : old.size = cs.size) (h1 : cs.toList.all (·.oneCell') = true)
    (h : ∀ w1, Aside0 (OwnsM w w1 m (l.set i (g, cs, t)) rs) → K a w1) : if Region.wanted o (yielded ops a.tmps) = true then Oper.wp P o a W K Q else K (a.put o.dst undef) W := by
  rw [if_pos hw]
  have hb := HO.out.at_ i hi
  refine wp_store_row ty x y ho g cs hx hy t old hb hs hold (by simpa using h1) ?_
  rw [hN]
  exact h _ ⟨HO.out.put i hi (PutAt.setRow W g cs) (setRow_heap W g old cs t _ hb)⟩
theorem ow_load (HO : Aside0 (OwnsM w W m l rs)) (hgd : o.guard = none) (i : Nat) {g : Nat} {cs : Array Value} {t : TypeId} (hi : l[i]? = some (g, cs, t)) (ty : TypeId) (x : Operand) (ho : o.op = .load ty x) (d : TypeDesc)
    (hx : a.eval x = .pointer (some ⟨g, 0, none⟩)) (hu : P.underlying ty = some d) (hd : (match d with | .struct _ | .array _ _ => true | _ => false) = true) (hs : (P.info? ty).map (·.size) = some cs.size)
    (h : wpList P ops Q rest (a.put o.dst (.agg cs)) W) : wpList P ops Q (o :: rest) a W :=
  wpList_load_row hgd ty x ho g hx t cs (0, 0) d (HO.out.at_ i hi) hu hd hs h
/-- append of a row that is read to row number i -/
theorem ow_app (HO : Aside0 (OwnsM w W m l rs)) (hgd : o.guard = none) (i : Nat) {v : Value} {xs : List Int} (hi : rs[i]? = some (v, xs)) (s x : Operand) (T : TypeId) (ho : o.op = .call { callee := .builtin .append, args := #[s, x], argTypes := #[T, T] })
    (hT : P.underlying T = some (.slice 5)) (hinfo : (P.info? 5).map (fun i => (i.zero, i.size, i.bytes)) = some (some (.int .u8 0), 1, 1)) {A : Option Addr} {n c : Nat} {ys : List Int} (hs : a.eval s = v) (hx : a.eval x = .slice A n c) (hC : Kd.C (Kd.int .u8) W A n ys) (hl : xs.length + n < 140737488355328)
    (h : ∀ v1 w1, Aside0 (OwnsM w w1 m l (rs.set i (v1, xs ++ ys))) → wpList P ops Q rest (a.put o.dst v1) w1) : wpList P ops Q (o :: rest) a W :=
  Kd.R_append_rows (Kd.int .u8) (w0 := W) w.heap.size hgd s x T 5 (.int .u8 0) 1 ho hT hinfo rfl (by decide) (by omega) v xs ys A n c (fun _ => True) (fun _ => False) hs hx (HO.out.row i hi) hC (fun _ _ h => h) (fun _ h => h.elim) (fun _ _ => trivial) (Below.refl _ _) HO.out.size (by omega)
    fun v1 w1 hr hb hg hat => h v1 w1 ⟨HO.out.grow i hi hr hb hg hat⟩
theorem ow_app_step {K : Act → World → Prop} (HO : Aside0 (OwnsM w W m l rs)) (hw : Region.wanted o (yielded ops a.tmps) = true) (i : Nat) {v : Value} {xs : List Int} (hi : rs[i]? = some (v, xs)) (s x : Operand) (T : TypeId) (ho : o.op = .call { callee := .builtin .append, args := #[s, x], argTypes := #[T, T] })
    (hT : P.underlying T = some (.slice 5)) (hinfo : (P.info? 5).map (fun i => (i.zero, i.size, i.bytes)) = some (some (.int .u8 0), 1, 1)) {A : Option Addr} {n c : Nat} {ys : List Int} (hs : a.eval s = v) (hx : a.eval x = .slice A n c) (hC : Kd.C (Kd.int .u8) W A n ys) (hl : xs.length + n < 140737488355328)
    (h : ∀ v1 w1, Aside0 (OwnsM w w1 m l (rs.set i (v1, xs ++ ys))) → K (a.put o.dst v1) w1) : if Region.wanted o (yielded ops a.tmps) = true then Oper.wp P o a W K Q else K (a.put o.dst undef) W :=
  Kd.R_append_rows_step (Kd.int .u8) (w0 := W) w.heap.size hw s x T 5 (.int .u8 0) 1 ho hT hinfo rfl (by decide) (by omega) v xs ys A n c (fun _ => True) (fun _ => False) hs hx (HO.out.row i hi) hC (fun _ _ h => h) (fun _ h => h.elim) (fun _ _ => trivial) (Below.refl _ _) HO.out.size (by omega)
    fun v1 w1 hr hb hg hat => h v1 w1 ⟨HO.out.grow i hi hr hb hg hat⟩
theorem fresh_row (HO : OwnsM w W m l rs) {w1 : World} {v1 : Value} {xs : List Int} (hr : Kd.R (Kd.int .u8) 5 w1 W.heap.size (fun _ => True) v1 xs) (hb : Below W.heap.size W w1) : OwnsM w w1 m l ((v1, xs) :: rs) := HO.call1 hb hr
/-- a literal row of bytes -/
theorem ow_lit (HO : Aside0 (OwnsM w W m l rs)) (hgd : o.guard = none) {N : Tmp} (hd : o.dst = some N) (xs : List Int) (inner : List Value)
    (hrun : (execOp a.eval o).run P W = .ok (.value (.slice (some ⟨W.heap.size, 0, none⟩) xs.length xs.length)) (W.alloc (.cells inner.toArray 5))) (hrep : Reps (fun x cs => cs = [Value.int .u8 x]) 1 xs inner) (hm : xs.length ≤ 9223372036854775807)
    (h : ∀ v1 w1, Aside0 (OwnsM w w1 m l ((v1, xs) :: rs)) → wpList P ops Q rest (a.put o.dst v1) w1) : wpList P ops Q (o :: rest) a W :=
  Kd.R_lit (Kd.int .u8) (w0 := W) W.heap.size 5 hgd hd (ok := fun _ => True) (okp := fun _ => True) hrun hrep (fun _ h => h) trivial (Below.refl _ _) (Nat.le_refl _) hm
    fun v1 w1 hr hb _ _ => h v1 w1 ⟨fresh_row HO.out hr hb⟩
theorem ow_lit_step {K : Act → World → Prop} (HO : Aside0 (OwnsM w W m l rs)) (hw : Region.wanted o (yielded ops a.tmps) = true) {N : Tmp} (hd : o.dst = some N) (xs : List Int) (inner : List Value)
    (hrun : (execOp a.eval o).run P W = .ok (.value (.slice (some ⟨W.heap.size, 0, none⟩) xs.length xs.length)) (W.alloc (.cells inner.toArray 5))) (hrep : Reps (fun x cs => cs = [Value.int .u8 x]) 1 xs inner) (hm : xs.length ≤ 9223372036854775807)
    (h : ∀ v1 w1, Aside0 (OwnsM w w1 m l ((v1, xs) :: rs)) → K (a.put o.dst v1) w1) : if Region.wanted o (yielded ops a.tmps) = true then Oper.wp P o a W K Q else K (a.put o.dst undef) W :=
  Kd.R_lit_step (Kd.int .u8) (w0 := W) W.heap.size 5 hw hd (ok := fun _ => True) (okp := fun _ => True) hrun hrep (fun _ h => h) trivial (Below.refl _ _) (Nat.le_refl _) hm
    fun v1 w1 hr hb _ _ => h v1 w1 ⟨fresh_row HO.out hr hb⟩
theorem ow_putb_step {K : Act → World → Prop} (HO : Aside0 (OwnsM w W m l rs)) (hw : Region.wanted o (yielded ops a.tmps) = true) (hN : o.dst = none) (i : Nat) {g n c : Nat} {xs : List Int} (hi : rs[i]? = some (.slice (some ⟨g, 0, none⟩) n c, xs)) (j : Nat) (x : Int)
    (hrun : (execOp a.eval o).run P W = .ok .skip (W.setCell ⟨g, j, none⟩ (.int .u8 x)))
    (h : ∀ w1, Aside0 (OwnsM w w1 m l (rs.set i (.slice (some ⟨g, 0, none⟩) n c, xs.set j x))) → K a w1) : if Region.wanted o (yielded ops a.tmps) = true then Oper.wp P o a W K Q else K (a.put o.dst undef) W := by
  rw [if_pos hw]
  have hr := HO.out.row i hi
  obtain ⟨h1, h2⟩ := Kd.R_putg hr (j : Int) x
  rw [Int.toNat_natCast] at h1 h2
  have hb : w.heap.size ≤ g := Kd.R_base hr g rfl
  unfold Oper.wp
  rw [hrun]
  show K (a.put o.dst undef) _
  rw [hN]
  exact h _ ⟨HO.out.grow i hi h1 ((Below.refl _ _).setCell hb _) h2 (.inl rfl)⟩
/-- a cell stored, as a step of a region that draws its order -/
theorem ow_putc_step {K : Act → World → Prop} (HO : Aside0 (OwnsM w W m l rs)) (hw : Region.wanted o (yielded ops a.tmps) = true) (hN : o.dst = none) (i : Nat) {g : Nat} {old : Array Value} {t : TypeId} (hi : l[i]? = some (g, old, t)) (j : Nat) (v : Value)
    (hrun : (execOp a.eval o).run P W = .ok .skip (W.setCell ⟨g, j, none⟩ v))
    (h : ∀ w1, Aside0 (OwnsM w w1 m (l.set i (g, old.setIfInBounds j v, t)) rs) → K a w1) : if Region.wanted o (yielded ops a.tmps) = true then Oper.wp P o a W K Q else K (a.put o.dst undef) W := by
  rw [if_pos hw]
  have hb := HO.out.at_ i hi
  unfold Oper.wp
  rw [hrun]
  show K (a.put o.dst undef) _
  rw [hN]
  exact h _ ⟨HO.out.put i hi (PutAt.setCell W g j v) (heap_setCell_same W g j old t v hb)⟩
/-- a new block, as a step of a region that draws its order -/
theorem ow_box_step {K : Act → World → Prop} (HO : Aside0 (OwnsM w W m l rs)) (hw : Region.wanted o (yielded ops a.tmps) = true) {N : Tmp} (hd : o.dst = some N) (cs : Array Value) (t : TypeId)
    (hrun : (execOp a.eval o).run P W = .ok (.value (.pointer (some ⟨W.heap.size, 0, none⟩))) (W.alloc (.cells cs t (0, 0)))) (ht : (t == 5) = false)
    (h : ∀ g w1, Aside0 (OwnsM w w1 m ((g, cs, t) :: l) rs) → K (a.put o.dst (.pointer (some ⟨g, 0, none⟩))) w1) : if Region.wanted o (yielded ops a.tmps) = true then Oper.wp P o a W K Q else K (a.put o.dst undef) W :=
  box_step hw hd hrun fun g hg w1 hn hb => h g w1 ⟨HO.out.new (by simpa using ht) hg hn hb⟩
end
/-- the five cells at a pointer are as κ tells -/
def Pts (κ : Addr → Int × Int × Int × Int × Int) (w : World) (i : Option Addr) : Prop := ∀ a, i = some a → ∀ j v, ([.int .i64 (κ a).1, .int .u32 (κ a).2.1, .int .u32 (κ a).2.2.1, .int .i64 (κ a).2.2.2.1, .int .i64 (κ a).2.2.2.2] : List Value)[j]? = some v → w.cell? (a.add j) = some v
theorem Pts.below {κ : Addr → Int × Int × Int × Int × Int} {w w1 : World} {i : Option Addr} (h : Pts κ w i) (hb : Below w.heap.size w w1) : Pts κ w1 i := fun a e j v hv => pw_cell_below hb (h a e j v hv)
/-- one that is not listed, made in the meantime, is now -/
theorem OwnsM.addblk {w W : World} {m : Nat} {l : List Blk} {rs : List Rw} {g : Nat} {cs : Array Value} {t : TypeId} (h : OwnsM w W m l rs) (hg : w.heap.size ≤ g) (hn : W.heap[g]? = some (.cells cs t (0, 0))) (ha : ∀ x ∈ l, g ≠ x.1) (ht : (t == 5) = false) : OwnsM w W m ((g, cs, t) :: l) rs := by
  refine ⟨h.os, h.tape, h.output, h.size, h.kept, ?_, ?_, ?_, ?_, h.rows, h.rapart⟩
  · intro x hx
    rcases List.mem_cons.1 hx with rfl | hx
    · exact .inl hg
    · exact h.base x hx
  · intro x hx
    rcases List.mem_cons.1 hx with rfl | hx
    · exact hn
    · exact h.blk x hx
  · refine List.Pairwise.cons ?_ h.apart
    intro k hk
    obtain ⟨x, hx, rfl⟩ := List.mem_map.1 hk
    exact ha x hx
  · intro x hx
    rcases List.mem_cons.1 hx with rfl | hx
    · simpa using ht
    · exact h.no5 x hx
theorem OwnsM.ge {w W : World} {l : List Blk} {rs : List Rw} {x : Blk} (h : OwnsM w W w.heap.size l rs) (i : Nat) (hi : l[i]? = some x) : w.heap.size ≤ x.1 := by
  rcases h.base x (List.mem_of_getElem? hi) with h1 | h1 <;> omega
/-- a flow's five numbers -/
abbrev K5 := Int × Int × Int × Int × Int
abbrev kcells (k : K5) : Array Value := #[.int .i64 k.1, .int .u32 k.2.1, .int .u32 k.2.2.1, .int .i64 k.2.2.2.1, .int .i64 k.2.2.2.2]
/-- what a pointer to a flow points at: nothing, or a block that has been made since -/
def KeyAt (base : Nat) (W : World) (T : TypeId) (vi : Option Addr) : Option K5 → Prop
  | none => vi = none
  | some k => ∃ g, vi = some ⟨g, 0, none⟩ ∧ base ≤ g ∧ W.heap[g]? = some (.cells (kcells k) T (0, 0))
theorem KeyAt.move {base base' : Nat} {W w1 : World} {T : TypeId} {vi : Option Addr} {r : Option K5} (h : KeyAt base W T vi r) (hb : base' ≤ base) (hm : ∀ g, base ≤ g → g < W.heap.size → w1.heap[g]? = W.heap[g]?) : KeyAt base' w1 T vi r := by
  cases r with
  | none => exact h
  | some k =>
    obtain ⟨g, e, hg, hn⟩ := h
    exact ⟨g, e, Nat.le_trans hb hg, (hm g hg (Array.getElem?_eq_some_iff.1 hn).1).trans hn⟩
theorem KeyAt.below {base : Nat} {W w1 : World} {T : TypeId} {vi : Option Addr} {r : Option K5} (h : KeyAt base W T vi r) (hb : Below W.heap.size W w1) : KeyAt base w1 T vi r := h.move (Nat.le_refl _) fun g _ hg => hb.block g hg
theorem OwnsM.turnkey {w W w1 : World} {m : Nat} {l : List Blk} {rs : List Rw} {g gk : Nat} {old cs kc : Array Value} {t T : TypeId} (h : OwnsM w W m l rs) (i : Nat) (hi : l[i]? = some (g, old, t)) (hp : Turned W w1 g cs t) (hg : W.heap.size ≤ gk) (hn : w1.heap[gk]? = some (.cells kc T (0, 0))) (hT : (T == 5) = false) : OwnsM w w1 m ((gk, kc, T) :: l.set i (g, cs, t)) rs :=
  (h.turn i hi hp).addblk (Nat.le_trans h.size hg) hn (fun x hx e => by
    have h1 : x.1 ∈ (l.set i (g, cs, t)).map (·.1) := List.mem_map.2 ⟨x, hx, rfl⟩
    rw [OwnsM.put_map hi] at h1
    obtain ⟨y, hy, ey⟩ := List.mem_map.1 h1
    have := h.lt hy
    have ey' : y.1 = x.1 := ey
    omega) hT
/-- which operations are done, as a number's bits -/
def bmL : Nat → Nat → List Bool
  | 0, _ => []
  | n + 1, x => (x % 2 == 1) :: bmL n (x / 2)
abbrev bm (n x : Nat) : Array Bool := (bmL n x).toArray
theorem LsA {α : Type} (l : List α) (i : Nat) (a : α) : l.toArray.setIfInBounds i a = (l.set i a).toArray := by simp
theorem LsB {α : Type} (x a : α) (l : List α) : (x :: l).set 0 a = a :: l := rfl
theorem LsC {α : Type} (x a : α) (l : List α) (n : Nat) : (x :: l).set (n + 1) a = x :: l.set n a := rfl
theorem LmA {α β : Type} (f : α → β) (l : List α) : l.toArray.map f = (l.map f).toArray := by simp
theorem LmB {α β : Type} (f : α → β) (x : α) (l : List α) : (x :: l).map f = f x :: l.map f := rfl
theorem LmC {α β : Type} (f : α → β) : ([] : List α).map f = [] := rfl
theorem LdA {α : Type} {i : Nat} {l : List α} : (l.drop i).length = l.length - i := List.length_drop
theorem LtA {α : Type} {i : Nat} {l : List α} : (l.take i).length = min i l.length := List.length_take
/-- the rows of the events that are done -/
def rsel (b : Nat → Bool) : List (Nat × Rw) → List Rw
  | [] => []
  | e :: t => if b e.1 = true then e.2 :: rsel b t else rsel b t
theorem rsel_append (b : Nat → Bool) : ∀ (L1 L2 : List (Nat × Rw)), rsel b (L1 ++ L2) = rsel b L1 ++ rsel b L2
  | [], _ => rfl
  | e :: t, L2 => by
    show (if b e.1 = true then e.2 :: rsel b (t ++ L2) else rsel b (t ++ L2)) = (if b e.1 = true then e.2 :: rsel b t else rsel b t) ++ rsel b L2
    rw [rsel_append b t L2]
    split <;> rfl
theorem rsel_same {b : Nat → Bool} {i : Nat} : ∀ {L : List (Nat × Rw)}, (L.all fun e => !(e.1 == i)) = true → rsel (up b i) L = rsel b L
  | [], _ => rfl
  | e :: t, h => by
    simp only [List.all_cons, Bool.and_eq_true] at h
    have he : e.1 ≠ i := by simpa using h.1
    show (if up b i e.1 = true then e.2 :: rsel (up b i) t else rsel (up b i) t) = (if b e.1 = true then e.2 :: rsel b t else rsel b t)
    rw [up_ne he, rsel_same h.2]
theorem OwnsM.perm {w W : World} {m : Nat} {l : List Blk} {rs rs' : List Rw} (h : OwnsM w W m l rs) (hp : rs.Perm rs') : OwnsM w W m l rs' :=
  ⟨h.os, h.tape, h.output, h.size, h.kept, h.base, h.blk, h.apart, h.no5, fun x hx => h.rows x (hp.mem_iff.2 hx), (List.Perm.pairwise_iff (fun {x y} hxy k hk e => hxy k e hk) hp).1 h.rapart⟩
/-- the row of event i, place k of the list, has come -/
theorem OwnsM.selk {w W : World} {m : Nat} {l : List Blk} {b : Nat → Bool} {i : Nat} {v : Value} {xs : List Int} {r0 : Rw} {L L' : List (Nat × Rw)} (h : OwnsM w W m l ((v, xs) :: rsel b L)) (k : Nat) (hb : b i = false) (hL : L[k]? = some (i, r0)) (hL' : L.set k (i, (v, xs)) = L') (hd : ((L.take k ++ L.drop (k + 1)).all fun e => !(e.1 == i)) = true) : OwnsM w W m l (rsel (up b i) L') := by
  have hk := (List.getElem?_eq_some_iff.1 hL).1
  have h1 : L = L.take k ++ (i, r0) :: L.drop (k + 1) := by
    have h2 : L[k] = (i, r0) := (List.getElem?_eq_some_iff.1 hL).2
    rw [← h2, List.getElem_cons_drop, List.take_append_drop]
  have h3 : L' = L.take k ++ (i, (v, xs)) :: L.drop (k + 1) := by rw [← hL', List.set_eq_take_append_cons_drop, if_pos hk]
  rw [List.all_append, Bool.and_eq_true] at hd
  have e1 : rsel b L = rsel b (L.take k) ++ rsel b (L.drop (k + 1)) := by
    conv => lhs; rw [h1]
    rw [rsel_append]
    congr 1
    show (if b i = true then _ else _) = _
    rw [if_neg (by rw [hb]; decide)]
  have e2 : rsel (up b i) L' = rsel b (L.take k) ++ (v, xs) :: rsel b (L.drop (k + 1)) := by
    rw [h3, rsel_append, rsel_same hd.1]
    congr 1
    show (if up b i i = true then _ else _) = _
    rw [if_pos (up_self b i), rsel_same hd.2]
  rw [e1] at h
  rw [e2]
  exact h.perm List.perm_middle.symm
section
variable {P : Program} {ops : Array Oper} {rest : List Oper} {o : Oper} {a : Act} {Q : Exit → Act → World → Prop} {W : World} {K : Act → World → Prop}
/-- a literal row of rows, read -/
theorem litN_step (hw : Region.wanted o (yielded ops a.tmps) = true) {N' : Tmp} (hd : o.dst = some N') {xs : List (List Int)} {inner : List Value}
    (hrun : (execOp a.eval o).run P W = .ok (.value (.slice (some ⟨W.heap.size, 0, none⟩) xs.length xs.length)) (W.alloc (.cells inner.toArray 24)))
    (hrep : Reps (Kd.FK (Kd.slice 5 (Kd.int .u8)) W (fun _ => True)) 1 xs inner) (hm : xs.length ≤ 9223372036854775807)
    (h : ∀ A c w1, Below W.heap.size W w1 → Kd.C (Kd.slice 5 (Kd.int .u8)) w1 A xs.length xs → xs.length ≤ c → K (a.put o.dst (.slice A xs.length c)) w1) :
    if Region.wanted o (yielded ops a.tmps) = true then Oper.wp P o a W K Q else K (a.put o.dst undef) W :=
  Kd.N_lit_step (Kd.slice 5 (Kd.int .u8)) (w0 := W) W.heap.size 24 hw hd (ok := fun _ => True) (okp := fun _ => True) hrun hrep (fun _ h => h) trivial (Below.refl _ _) (Nat.le_refl _) hm fun v1 w1 hN hb _ _ => by
    obtain ⟨A, c, rfl, hc, hC⟩ := Kd.N_reads hN
    exact h A c w1 hb hC hc
theorem litN (hgd : o.guard = none) {N' : Tmp} (hd : o.dst = some N') {xs : List (List Int)} {inner : List Value}
    (hrun : (execOp a.eval o).run P W = .ok (.value (.slice (some ⟨W.heap.size, 0, none⟩) xs.length xs.length)) (W.alloc (.cells inner.toArray 24)))
    (hrep : Reps (Kd.FK (Kd.slice 5 (Kd.int .u8)) W (fun _ => True)) 1 xs inner) (hm : xs.length ≤ 9223372036854775807)
    (h : ∀ A c w1, Below W.heap.size W w1 → Kd.C (Kd.slice 5 (Kd.int .u8)) w1 A xs.length xs → xs.length ≤ c → wpList P ops Q rest (a.put o.dst (.slice A xs.length c)) w1) : wpList P ops Q (o :: rest) a W :=
  Kd.N_lit (Kd.slice 5 (Kd.int .u8)) (w0 := W) W.heap.size 24 hgd hd (ok := fun _ => True) (okp := fun _ => True) hrun hrep (fun _ h => h) trivial (Below.refl _ _) (Nat.le_refl _) hm fun v1 w1 hN hb _ _ => by
    obtain ⟨A, c, rfl, hc, hC⟩ := Kd.N_reads hN
    exact h A c w1 hb hC hc
end
/-- a row as an element of a row of rows -/
theorem OwnsM.fk {w W : World} {m : Nat} {l : List Blk} {rs : List Rw} (h : OwnsM w W m l rs) (i : Nat) {A : Option Addr} {c : Nat} {xs : List Int} (hi : rs[i]? = some (.slice A xs.length c, xs)) : Kd.FK (Kd.slice 5 (Kd.int .u8)) W (fun _ => True) xs [.slice A xs.length c] :=
  Kd.FK_slice_mk (h.cap i hi) (Kd.R_F (h.row i hi))
theorem fk_nil (W : World) : Kd.FK (Kd.slice 5 (Kd.int .u8)) W (fun _ => True) ([] : List Int) [.slice none 0 0] := Kd.FK_slice_mk (A := none) (c := 0) (Nat.le_refl _) (Kd.F_nil _ _ _)
section
variable {P : Program} {ops : Array Oper} {rest : List Oper} {o : Oper} {a : Act} {Q : Exit → Act → World → Prop} {w W : World} {m : Nat} {l : List Blk} {rs : List Rw}
/-- two bytes of row j copied into row i -/
theorem ow_copy2 (HO : Aside0 (OwnsM w W m l rs)) (hgd : o.guard = none) (d s : Operand) (t : TypeId) (ho : o.op = .call { callee := .builtin .copy, args := #[d, s], argTypes := #[t, t] })
    (hu : P.underlying t = some (.slice 5)) (hsz : (P.info? 5).map (·.size) = some 1) (i j : Nat) {g n c : Nat} {xs ys : List Int} {A : Option Addr} {c2 : Nat} (hi : rs[i]? = some (.slice (some ⟨g, 0, none⟩) n c, xs)) (hj : rs[j]? = some (.slice A ys.length c2, ys)) (at_ dn dc : Nat)
    (hd : a.eval d = .slice (some ⟨g, at_, none⟩) dn dc) (hdn : 2 ≤ dn) (hs : a.eval s = .slice A ys.length c2) (hys : ys.length = 2) (hat : at_ + 2 ≤ xs.length)
    (h : ∀ w1, Aside0 (OwnsM w w1 m l (rs.set i (.slice (some ⟨g, 0, none⟩) n c, (xs.set at_ (PrintWords.rd ys 0)).set (at_ + 1) (PrintWords.rd ys 1)))) → wpList P ops Q rest (a.put o.dst (goInt 2)) w1) : wpList P ops Q (o :: rest) a W := by
  have hr := HO.out.row i hi
  have hb : w.heap.size ≤ g := Kd.R_base hr g rfl
  refine R_copy2 w.heap.size hgd d s t 5 ho hu hsz g n c at_ (fun _ => True) xs ys A c2 dn dc hd hdn hs hr (HO.out.rd j hj) hys hat fun w1 hw hg hr1 => ?_
  refine h w1 ⟨HO.out.grow i hi hr1 ?_ hg (.inl rfl)⟩
  rw [hw]
  exact ((Below.refl _ _).setCell hb _).setCell hb _
end

end Go.Proofs.YtkdibloahkhgoaaW.PrintWords
