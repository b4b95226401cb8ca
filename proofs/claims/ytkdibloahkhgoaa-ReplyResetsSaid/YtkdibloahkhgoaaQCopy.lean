/- copy of a word of two bytes into a row of one's own, and a region that draws its order of which but one operation may come up at a time: it is walked in that order. No condition. -/
import Derived.Test.YtkdibloahkhgoaaQWords
import Derived.Test.YtkdibloahkhgoaaWLast
import Derived.Test.YtkdibloahkhgoaaWTab
import Derived.Laws.CopyOwn
namespace Go.Proofs.YtkdibloahkhgoaaW.PrintWords
open Go.RowKit Go.Proofs.YtkdibloahkhgoaaW.PrintLast

section
variable {P : Program} {ops : Array Oper} {Q : Exit → Act → World → Prop} {md : Region.Mode}
/-- From here on one operation alone may come up at a time, in this order; then none. -/
def chainB (md : Region.Mode) (ops : Array Oper) : Array Bool → List Nat → Bool
  | l, [] => Region.ready md ops l == []
  | l, i :: is => Region.ready md ops l == [i] && chainB md ops (l.setIfInBounds i true) is
theorem chain_go : ∀ (is : List Nat) (rest : List Oper) (l : Array Bool) (a : Act) (w : World), is.map (fun i => ops[i]?) = rest.map some → chainB md ops l is = true →
    wpList P ops Q rest a w → wpAnyLast P md ops Q (fun _ => True) [] is.length l a w
  | [], rest, l, a, w, hr, hc, h => by
    cases rest with
    | cons => simp at hr
    | nil => exact done_ hc h
  | i :: is, rest, l, a, w, hr, hc, h => by
    cases rest with
    | nil => simp at hr
    | cons o rest =>
      simp only [List.map_cons, List.cons.injEq] at hr
      obtain ⟨ho, hr⟩ := hr
      simp only [chainB, Bool.and_eq_true, beq_iff_eq] at hc
      obtain ⟨h1, h2⟩ := hc
      refine wpAnyLast_ready h1 (by simp) ?_
      intro j hj
      obtain rfl := List.mem_singleton.1 hj
      unfold wpList at h
      unfold wpOp
      simp only [ho]
      have ih : ∀ a' w', wpList P ops Q rest a' w' → ((j ∉ ([] : List Nat) → True → True) ∧ wpAnyLast P md ops Q (fun _ => True) [] is.length (l.setIfInBounds j true) a' w') := fun a' w' h' => ⟨fun _ _ => trivial, chain_go is rest _ a' w' hr h2 h'⟩
      split
      · rename_i hw
        rw [if_pos hw] at h
        rcases h with h | h
        · exact Or.inl (Oper.wp_mono ih h)
        · exact .inr h
      · rename_i hw
        rw [if_neg hw] at h
        exact ih _ _ h
theorem filterMap_some : ∀ (is : List Nat), is.all (fun i => decide (i < ops.size)) = true → is.map (fun i => ops[i]?) = (is.filterMap (fun i => ops[i]?)).map some
  | [], _ => rfl
  | i :: is, h => by
    simp only [List.all_cons, Bool.and_eq_true, decide_eq_true_eq] at h
    have e : ops[i]? = some ops[i] := Array.getElem?_eq_getElem h.1
    rw [List.map_cons, List.filterMap_cons, e, List.map_cons, filterMap_some is h.2]
theorem chain_ {n : Nat} {l : Array Bool} {a : Act} {w : World} (is : List Nat) (hn : is.length = n) (hi : is.all (fun i => decide (i < ops.size)) = true) (hc : chainB md ops l is = true)
    (h : wpList P ops Q (is.filterMap (fun i => ops[i]?)) a w) : wpAnyLast P md ops Q (fun _ => True) [] n l a w := by
  subst hn
  exact chain_go is _ l a w (filterMap_some is hi) hc h
end
section
variable {P : Program} {ops : Array Oper} {Q : Exit → Act → World → Prop} {rest : List Oper} {o : Oper} {a : Act}
theorem setRow_two (W : World) (g : Nat) (cur : Array Value) (t : TypeId) (at_ : Nat) (u v : Value) (hg : W.heap[g]? = some (.cells cur t (0, 0))) (hf : at_ + 2 ≤ cur.size) :
    W.setRow g (cur.toList.take at_ ++ ([u, v] ++ cur.toList.drop (at_ + [u, v].length))).toArray = (W.setCell ⟨g, at_, none⟩ u).setCell ⟨g, at_ + 1, none⟩ v := by
  have hlt : g < W.heap.size := (Array.getElem?_eq_some_iff.1 hg).1
  have hge : W.heap[g] = .cells cur t (0, 0) := (Array.getElem?_eq_some_iff.1 hg).2
  have hl : (cur.toList.take at_ ++ ([u, v] ++ cur.toList.drop (at_ + [u, v].length))).toArray = (cur.setIfInBounds at_ u).setIfInBounds (at_ + 1) v := by
    apply Array.toList_inj.1
    simp only [Array.toList_setIfInBounds]
    apply List.ext_getElem?
    intro j
    have hsz : cur.toList.length = cur.size := by simp
    rcases Nat.lt_or_ge j at_ with h | h
    · rw [List.getElem?_append_left (by simp; omega), List.getElem?_take_of_lt h, List.getElem?_set_ne (by omega), List.getElem?_set_ne (by omega)]
    · rw [List.getElem?_append_right (by simp; omega), List.length_take, Nat.min_eq_left (by omega)]
      rcases Nat.lt_or_ge j (at_ + 2) with h2 | h2
      · rcases Nat.eq_or_lt_of_le h with h3 | h3
        · subst h3
          rw [List.getElem?_set_ne (by omega), List.getElem?_set_self (by simp; omega), Nat.sub_self]
          rfl
        · obtain rfl : j = at_ + 1 := by omega
          rw [List.getElem?_set_self (by simp; omega), show at_ + 1 - at_ = 1 by omega]
          rfl
      · rw [List.getElem?_append_right (by simp; omega), List.getElem?_set_ne (by omega), List.getElem?_set_ne (by omega), List.getElem?_drop]
        congr 1; simp; omega
  unfold World.setRow World.setCell
  simp only [hl]
  congr 1
  apply Array.ext_getElem?
  intro k
  simp only [Array.getElem?_modify]
  by_cases hk : g = k
  · subst hk
    simp [hlt, hge]
  · simp [hk]
/-- copy(b[at:], a word of two bytes), b a row of one's own -/
theorem R_copy2 {W : World} (base : Nat) (hgd : o.guard = none) (d s : Operand) (t e : TypeId) (ho : o.op = .call { callee := .builtin .copy, args := #[d, s], argTypes := #[t, t] })
    (hu : P.underlying t = some (.slice e)) (hsz : (P.info? e).map (·.size) = some 1) (g n c at_ : Nat) (ok : Nat → Prop) (xs ys : List Int) (A : Option Addr) (c2 dn dc : Nat)
    (hd : a.eval d = .slice (some ⟨g, at_, none⟩) dn dc) (hdn : 2 ≤ dn) (hs : a.eval s = .slice A ys.length c2) (HO : Kd.R (Kd.int .u8) e W base ok (.slice (some ⟨g, 0, none⟩) n c) xs) (HS : Kd.C (Kd.int .u8) W A ys.length ys) (hys : ys.length = 2) (hat : at_ + 2 ≤ xs.length)
    (h : ∀ w1, w1 = (W.setCell ⟨g, at_, none⟩ (.int .u8 (rd ys 0))).setCell ⟨g, at_ + 1, none⟩ (.int .u8 (rd ys 1)) → W.grownBy w1 (some g) → Kd.R (Kd.int .u8) e w1 base ok (.slice (some ⟨g, 0, none⟩) n c) ((xs.set at_ (rd ys 0)).set (at_ + 1) (rd ys 1)) → wpList P ops Q rest (a.put o.dst (goInt 2)) w1) :
    wpList P ops Q (o :: rest) a W := by
  obtain ⟨hn, _⟩ := Kd.R_reads' HO
  obtain ⟨g', cap, he, hb, hlt, cells, hg⟩ := Kd.R_form HO (by omega)
  injection he with e1 _ _
  injection e1 with e1
  injection e1 with e1
  subst e1
  obtain ⟨hc1, _⟩ := Kd.R_celln 0 HO ((at_ + 1 : Nat) : Int) (by omega) (by omega)
  have hfit : at_ + 2 ≤ cells.size := by
    obtain ⟨z, hc2⟩ : ∃ z, W.cell? ⟨g, at_ + 1, none⟩ = some z := ⟨_, by simpa using hc1⟩
    rcases Nat.lt_or_ge (at_ + 1) cells.size with h | h
    · omega
    · exfalso
      have : W.cell? ⟨g, at_ + 1, none⟩ = none := by
        simp [World.cell?, hg, h]
      rw [this] at hc2
      cases hc2
  obtain ⟨ad, ea, hx0⟩ := Kd.at_int HS 0 (by omega) (by omega)
  obtain ⟨ad', ea', hx1⟩ := Kd.at_int HS 1 (by omega) (by omega)
  rw [ea] at ea'
  injection ea' with ea'
  subst ea'
  subst ea
  refine wpList_copy_own hgd d s t t ho e hu hsz g at_ dn dc ad ys.length c2 hd hs cells _ hg [.int .u8 (rd ys 0), .int .u8 (rd ys 1)] ?_ ?_ (by simpa using hfit) ?_ ?_
  · rw [hys]; show 2 = Nat.min 2 dn; exact (Nat.min_eq_left hdn).symm
  · intro j v hj
    match j, hj with
    | 0, hj => simp at hj; subst hj; simpa using hx0
    | 1, hj => simp at hj; subst hj; simpa using hx1
    | j + 2, hj => simp at hj
  · intro v hv
    simp at hv
    rcases hv with rfl | rfl <;> rfl
  · rw [setRow_two W g cells _ at_ _ _ hg hfit]
    have p1 := Kd.R_putg HO ((at_ : Nat) : Int) (rd ys 0)
    have p2 := Kd.R_putg p1.1 ((at_ + 1 : Nat) : Int) (rd ys 1)
    simp only [Int.toNat_natCast] at p1 p2
    exact h _ rfl (p1.2.trans p2.2) p2.1
end
end Go.Proofs.YtkdibloahkhgoaaW.PrintWords
