/- The second form of SumTells: where what it reads is small, the law answers true. The row of [][]byte is opened here; the walk and the pure part are the other texts'. No condition besides the form's own. -/
import Derived.Test.YtakdkbdojdjpkaaRows
import Derived.Test.YtakdkbdojdjpkaaQSumTellsx3
import Derived.Test.YtakdkbdojdjpkaaPureSumTells
import Derived.WalkKit
import Derived.ProofKit
import Derived.OpenShut
import Derived.ShutString
import Derived.ChangeOld
import Derived.Below
import Derived.JoinedCond
import Derived.Deep.Slices
namespace Go.Proofs.Ytakdkbdojdjpkaa.sumTells
open Go.ChangeShapes Go.WideShapes Go.ChangeAt Go.RowKit
open Go.ChangeMaps (open_string shut_string)
open Go.Proofs.YtakdkbdojdjpkaaW.PrintWords
set_option linter.unusedVariables false
theorem own : ownKnob Try.prog.godebug = none := by kernel_rfl
theorem laidOut : laidOutB Try.prog = true := by kernel_rfl

theorem one_le {H : Type} (d : DataW H) : 1 ≤ Rows.uptoBulk d := by
  cases d with
  | lit l => cases l <;> simp [Rows.uptoBulk]
  | _ => simp [Rows.uptoBulk]
theorem length_le {H : Type} (l : List (DataW H)) : l.length ≤ Rows.uptoBulkAll l := by
  induction l with
  | nil => simp [Rows.uptoBulkAll]
  | cons x r ih => have := one_le x; simp only [Rows.uptoBulkAll, List.length_cons]; omega
/-- so many bytes at the most -/
theorem bulk_rows {H : Type} (f : Nat → List Int) (D : Nat → DataW H) : ∀ L : List Nat, (∀ i ∈ L, (f i).length + 1 ≤ Rows.uptoBulk (D i)) → (L.map f).length + (L.map f).flatten.length ≤ Rows.uptoBulkAll (L.map D)
  | [], _ => by simp [Rows.uptoBulkAll]
  | i :: L, h => by
    have h1 := h i List.mem_cons_self
    have h2 := bulk_rows f D L (fun j hj => h j (List.mem_cons_of_mem _ hj))
    simp only [List.map_cons, List.flatten_cons, List.length_cons, List.length_append, Rows.uptoBulkAll]
    omega

/-- one slice of bytes, opened -/
theorem open_one {H : Type} {enc : TypeId × Value → H} {P : Program} {W : World} {e b : TypeId} (he : P.underlying e = some (.slice b)) (hb : P.underlying b = some (.int .u8)) (hcb : P.cellsOf b = 1) {n : Nat} {v : Value} {d : DataW H} {ps : List MemPlace}
    (h : DataW.trod enc P W 0 (fun _ => true) true n e [v] = some (d, ps)) :
    ∃ xs : List Int, (∃ A c, v = .slice A xs.length c ∧ xs.length ≤ c ∧ Kd.C (Kd.int .u8) W A xs.length xs) ∧ (∀ y ∈ xs, (Lit.int .u8 y).wf = true) ∧ xs.length + 1 ≤ Rows.uptoBulk d := by
  rcases open_ints he hb hcb h with ⟨hcs, hx⟩ | ⟨a, len, cap, zs, hcs, _, hl, hm, hz, hx, hcell, hwz⟩
  · injection hcs with hv _
    injection hx with hd _
    subst hv hd
    exact ⟨[], ⟨none, 0, rfl, Nat.le_refl _, Kd.C_nil _ _⟩, fun y hy => by simp at hy, by simp [Rows.uptoBulk]⟩
  · injection hcs with hv _
    injection hx with hd _
    have hz' : zs.length = cap := by simpa using hz
    obtain ⟨l, e1, hr, _, hw, hc⟩ := ReadsInt.ofRowC (k := .u8) (w := W) (a := some a) (len := len) (cap := cap) (zs := zs) (.inr ⟨a, rfl, hl, hm, hz', hcell, hwz⟩)
    subst e1
    refine ⟨l, ⟨some a, cap, hv, hc, Kd.C_of_reads (d := (0 : Int)) (h1 := fun _ => rfl) hr⟩, hw, ?_⟩
    rw [hd]
    have h1 := length_le (lits (H := H) .u8 (zs.take l.length))
    have h2 : (lits (H := H) .u8 (zs.take l.length)).length = l.length := by simp [lits]; omega
    simp only [Rows.uptoBulk]
    omega

/-- a slice of slices of bytes, opened -/
theorem open_rows {H : Type} {enc : TypeId × Value → H} {P : Program} {W : World} {t e b : TypeId} (ht : P.underlying t = some (.slice e)) (hce : P.cellsOf e = 1) (he : P.underlying e = some (.slice b)) (hb : P.underlying b = some (.int .u8)) (hcb : P.cellsOf b = 1) {A : Option Addr} {len cap : Nat} {d : DataW H} {ps : List MemPlace}
    (h : DataW.Trod enc P W 0 (fun _ => true) true t (.slice A len cap) d ps) :
    ∃ l : List (List Int), len = l.length ∧ Kd.C (Kd.slice 5 (Kd.int .u8)) W A l.length l ∧ l.length ≤ cap ∧ (∀ x ∈ l, ∀ y ∈ x, (Lit.int .u8 y).wf = true) ∧ l.length + l.flatten.length ≤ Rows.uptoBulk d := by
  obtain ⟨fuel, hf⟩ := h
  rcases Go.Deep.open_slice1 ht hce hf with ⟨hcs, hx⟩ | ⟨a, len', cap', m, n, V, D, Pl, hcs, _, hl, hm, hmm, hx, hv⟩
  · simp [Value.cells] at hcs
    obtain ⟨rfl, rfl, rfl⟩ := hcs
    exact ⟨[], rfl, ⟨rfl, by simp, fun hn => by simp at hn⟩, Nat.le_refl _, fun x hx => by simp at hx, by simp⟩
  · simp [Value.cells] at hcs
    obtain ⟨rfl, rfl, rfl⟩ := hcs
    injection hx with hd _
    have hm' : m = cap := by simpa using hmm
    subst hm'
    obtain ⟨f, hf⟩ := Go.Deep.choose_lt (n := len) (fun i hi => open_one he hb hcb (hv i (by omega)).2)
    have hL : ((List.range len).map f).length = len := by simp
    refine ⟨(List.range len).map f, hL.symm, ⟨rfl, ?_, fun _ => ⟨a, rfl, fun j p hj => ?_⟩⟩, by rw [hL]; exact hl, ?_, ?_⟩
    · rw [hL]; unfold maxLen at hm; omega
    · obtain ⟨hj1, hj2⟩ := List.getElem?_eq_some_iff.1 hj
      have hjl : j < len := by rw [hL] at hj1; exact hj1
      have hp : p = f j := by rw [← hj2]; simp
      subst hp
      obtain ⟨⟨A', c', ev, hle, hC⟩, _, _⟩ := hf j hjl
      refine ⟨[V j], rfl, ⟨A', c', by rw [ev], hle, hC⟩, fun i u hu => ?_⟩
      cases i with
      | zero =>
        have hu' : V j = u := by simpa using hu
        subst hu'
        show W.cell? (a.add (j * 1 + 0)) = _
        rw [Nat.mul_one, Nat.add_zero]
        exact (hv j (by omega)).1
      | succ i => simp at hu
    · intro x hx
      obtain ⟨i, hi, rfl⟩ := List.mem_map.1 hx
      exact (hf i (List.mem_range.1 hi)).2.1
    · have h1 := bulk_rows f D (List.range len) (fun i hi => (hf i (List.mem_range.1 hi)).2.2)
      rw [hd]
      simp only [Rows.uptoBulk]
      omega
set_option maxRecDepth 100000 in
theorem lifted (os : Os) (started : os.Started) (H : Type) (enc : TypeId × Value → H) (F : Stop.Interp) :
    ReturnsInHanded {} Try.checked os 12 .any ((Rows.OpenSpec.upto Rows.sumTellsSpec).pre6 enc Try.prog Try.f12 Rows.sumTellsUptoRow.domain false) (((Rows.OpenSpec.upto Rows.sumTellsSpec).at F).post enc Try.prog Try.f12 false true false false) := by
  refine returnsInHanded_of_cond (C := Try.checked) (s := Rows.OpenSpec.upto Rows.sumTellsSpec) (k := Rows.uptoSmall) rfl own started (by kernel_rfl) Try.func12
    (OpenSpec.witness (enc := enc) (C := Try.checked) (s := Rows.OpenSpec.upto Rows.sumTellsSpec) (k := Rows.uptoSmall) rfl false ⟨#[], #[.slice none 0 0, .int .i64 0, .int .i64 0, .int .i64 0, .int .u32 0, .int .u32 0, .int .i64 0, .int .i64 0], []⟩ 8 (by kernel_rfl) (by kernel_rfl) (by kernel_rfl)
      (x := ([.nil, .lit (.int .i64 0), .lit (.int .i64 0), .lit (.int .i64 0), .lit (.int .u32 0), .lit (.int .u32 0), .lit (.int .i64 0), .lit (.int .i64 0)], [], [])) (by kernel_rfl) rfl (by kernel_rfl)) ?_
  intro W base args ds gs before hval0 hW _ hk _
  have hval : ∀ (j : Nat) t v, Try.f12.params[j]? = some t → args[j]? = some v → Value.okWide Try.prog W .any base t v := hval0
  have hW' := hW
  obtain ⟨p, q, hA0, hV, rfl, hfz, hnd⟩ := hW
  have hA : DataW.TrodAll enc Try.prog W 0 (fun _ => true) true Try.f12.params.toList args.toList ds p := hA0
  rw [Try.params12] at hA hval
  obtain ⟨v0, vs0, d0, ds0, p0, q0, hargs, rfl, rfl, h0, r0⟩ := trodAll_cons hA
  obtain ⟨v1, vs1, d1, ds1, p1, q1, rfl, rfl, rfl, h1, r1⟩ := trodAll_cons r0
  obtain ⟨v2, vs2, d2, ds2, p2, q2, rfl, rfl, rfl, h2, r2⟩ := trodAll_cons r1
  obtain ⟨v3, vs3, d3, ds3, p3, q3, rfl, rfl, rfl, h3, r3⟩ := trodAll_cons r2
  obtain ⟨v4, vs4, d4, ds4, p4, q4, rfl, rfl, rfl, h4, r4⟩ := trodAll_cons r3
  obtain ⟨v5, vs5, d5, ds5, p5, q5, rfl, rfl, rfl, h5, r5⟩ := trodAll_cons r4
  obtain ⟨v6, vs6, d6, ds6, p6, q6, rfl, rfl, rfl, h6, r6⟩ := trodAll_cons r5
  obtain ⟨v7, vs7, d7, ds7, p7, q7, rfl, rfl, rfl, h7, r7⟩ := trodAll_cons r6
  obtain ⟨rfl, rfl, rfl⟩ := trodAll_nil r7
  obtain rfl : args = #[v0, v1, v2, v3, v4, v5, v6, v7] := by cases args; simp_all
  obtain ⟨rfl, rfl⟩ := trodVars_none hV
  obtain ⟨A0, len0, cap0, rfl⟩ := okWide_slice Try.underlying44 (hval 0 44 v0 rfl rfl)
  have k0 := h0
  have lt0 : ∀ x ∈ p0, x.block < W.heap.size := by obtain ⟨m, hm⟩ := k0; exact DataW.trod_lt m _ _ _ hm
  obtain ⟨l0, rfl, hr0, hc0, hw0, hb0⟩ := open_rows Try.underlying44 (by kernel_rfl) Try.underlying22 Try.underlying5 (by kernel_rfl) h0
  obtain ⟨a1, rfl, rfl, rfl, w1⟩ := open_int Try.underlying3 (hval 1 3 v1 rfl rfl) h1
  obtain ⟨a2, rfl, rfl, rfl, w2⟩ := open_int Try.underlying3 (hval 2 3 v2 rfl rfl) h2
  obtain ⟨a3, rfl, rfl, rfl, w3⟩ := open_int Try.underlying3 (hval 3 3 v3 rfl rfl) h3
  obtain ⟨a4, rfl, rfl, rfl, w4⟩ := open_int Try.underlying25 (hval 4 25 v4 rfl rfl) h4
  obtain ⟨a5, rfl, rfl, rfl, w5⟩ := open_int Try.underlying25 (hval 5 25 v5 rfl rfl) h5
  obtain ⟨a6, rfl, rfl, rfl, w6⟩ := open_int Try.underlying3 (hval 6 3 v6 rfl rfl) h6
  obtain ⟨a7, rfl, rfl, rfl, w7⟩ := open_int Try.underlying3 (hval 7 3 v7 rfl rfl) h7
  have hbound : l0.length + l0.flatten.length ≤ 1048576 := by
    have h := of_decide_eq_true hk
    simp only [List.cons_append, List.nil_append, Rows.uptoBulkAll] at h
    omega
  clear hA0 hval0 hk
  obtain ⟨k, hpure⟩ := Pure.SumTells l0 a1 a2 a3 a4 a5 a6 a7 hw0 hbound
  refine (QSumTells.castellanlaw2_SumTells.calls k A0 cap0 l0 a1 a2 a3 a4 a5 a6 a7 true W hr0 hc0 rfl hpure).mono fun e W' ⟨he, bel⟩ => ?_
  subst he
  exact ⟨_, rfl, _, _, _, [], _, [], hW', trodAll_mk1 (shut_bool Try.underlying4 _), (trodAll_cons_mk (Below.trod laidOut (by kernel_rfl) (of_decide_eq_true (by kernel_rfl)) k0 bel lt0) (trodAll_cons_mk (shut_int Try.underlying3 w1) (trodAll_cons_mk (shut_int Try.underlying3 w2) (trodAll_cons_mk (shut_int Try.underlying3 w3) (trodAll_cons_mk (shut_int Try.underlying25 w4) (trodAll_cons_mk (shut_int Try.underlying25 w5) (trodAll_cons_mk (shut_int Try.underlying3 w6) (trodAll_cons_mk (shut_int Try.underlying3 w7) trodAll_mk0)))))))), rfl, bel.frame _, fun h => by cases h⟩
theorem over : Rows.sumTellsUptoRow.holds Try.pinned (Rows.OpenSpec.upto Rows.sumTellsSpec) :=
  OpenClaim.holds_of_cond 12 Try.f12 rfl rfl rfl rfl rfl rfl rfl ⟨rfl, rfl, rfl, rfl, rfl⟩ rfl rfl rfl rfl rfl (by kernel_rfl) Try.func12 (by kernel_rfl)
    (of_decide_eq_true (by kernel_rfl)) (by unfold Func.isWrapper; first | (rw [if_pos (by decide +kernel)]; kernel_rfl) | (rw [if_neg (by decide +kernel)]; exact ⟨rfl, rfl⟩))
    (fun os started H enc _ F => lifted os started H enc F)
theorem proved : Rows.SumTellsUptoSaid := over
#print axioms proved
end Go.Proofs.Ytakdkbdojdjpkaa.sumTells
namespace Go.Proofs.Ytakdkbdojdjpkaa
/-- The row, under a short name, for the claim. -/
theorem sumTellsUpto_holds : Rows.SumTellsUptoSaid := sumTells.proved
end Go.Proofs.Ytakdkbdojdjpkaa
