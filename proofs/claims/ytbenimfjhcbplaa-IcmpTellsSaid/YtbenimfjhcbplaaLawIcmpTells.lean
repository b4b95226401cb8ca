-- written by myprint.py, a program of this session's over the kit's printer
import Derived.Test.YtbenimfjhcbplaaRows
import Derived.Test.YtbenimfjhcbplaaQIcmpTellsx7
import Derived.Test.YtbenimfjhcbplaaPureIcmpTells
import Derived.WalkKit
import Derived.ProofKit
import Derived.OpenShut
import Derived.ShutString
import Derived.ChangeOld
import Derived.Below
import Derived.SizedLaws
import Derived.Test.YtbenimfjhcbplaaWSized
namespace Go.Proofs.Ytbenimfjhcbplaa.icmpTells
open Go.ChangeShapes Go.WideShapes Go.ChangeAt Go.RowKit
open Go.ChangeMaps (open_string shut_string)
set_option linter.unusedVariables false
theorem own : ownKnob Try.prog.godebug = none := by kernel_rfl
theorem laidOut : laidOutB Try.prog = true := by kernel_rfl
def IsRow (k : IntKind) (w : World) (a : Option Addr) (len cap : Nat) (zs : List Int) : Prop :=
  (a = none ∧ len = 0 ∧ cap = 0 ∧ zs = []) ∨
  ∃ x, a = some x ∧ len ≤ cap ∧ cap ≤ maxLen ∧ zs.length = cap ∧ (∀ i, i < zs.length → w.cell? (x.add i) = some (.int k (zs.getD i 0))) ∧ ∀ n ∈ zs, (Lit.int k n).wf = true
set_option maxHeartbeats 1000000 in
theorem open41 {H : Type} {enc : TypeId × Value → H} {W : World} {base : Nat} {v : Value} {d : DataW H} {p : List MemPlace} (hv : Value.okWide Try.prog W .any base 41 v) (hk : DataW.Trod enc Try.prog W 0 (fun _ => true) true 41 v d p) (hw : ∀ x_ ∈ d.weights Try.prog 41, x_ ≤ reachBytes) :
    ∃ (a0 : Int) (a1 : Int) (a2 : Int) (a3 : Option Addr) (n3 c3 : Nat) (z3 : List Int), v = .agg #[.int .i64 a0, .int .i64 a1, .int .u32 a2, .slice a3 n3 c3] ∧ (Lit.int .i64 a0).wf = true ∧ (Lit.int .i64 a1).wf = true ∧ (Lit.int .u32 a2).wf = true ∧ IsRow .u8 W a3 n3 c3 z3 ∧ n3 * 1 ≤ 140737488351232 := by
  obtain ⟨cs, rfl, hsz⟩ := okWide_struct Try.underlying41 hv
  obtain ⟨fuel, hf⟩ := hk
  obtain ⟨ys, m, _, hx, _, hl, hf⟩ := DataW.trod_struct Try.underlying41 hf
  have hsz2 : cs.size = 4 := hsz.trans (by kernel_rfl)
  obtain ⟨l⟩ := cs
  match l, hsz2 with
  | [c0, c1, c2, c3], _ =>
  match ys, hl with
  | [y0, y1, y2, y3], _ =>
  have hc3_ : Try.prog.cellsOf 3 = 1 := by kernel_rfl
  have hc24_ : Try.prog.cellsOf 24 = 1 := by kernel_rfl
  have hc25_ : Try.prog.cellsOf 25 = 1 := by kernel_rfl
  obtain ⟨rfl, -⟩ := Prod.mk.inj hx
  have hs_ : (DataW.weightsEach Try.prog [3, 3, 24, 25] [y0.1, y1.1, y2.1, y3.1]).all (· ≤ reachBytes) = true := by
    refine List.all_eq_true.2 fun x_ hx_ => ?_
    have h_ := hw x_ (by simp only [DataW.weights, Try.underlying41]; exact hx_)
    simpa using h_
  clear hw hx hv hsz hsz2
  have h0 := hf 0 _ rfl
  simp [hc3_, Value.cells] at h0
  have h1 := hf 1 _ rfl
  simp [hc3_, Value.cells] at h1
  have h2 := hf 2 _ rfl
  simp [hc24_, Value.cells] at h2
  have h3 := hf 3 _ rfl
  simp [hc25_, Value.cells] at h3
  obtain ⟨a0, e0, -, w0⟩ := DataW.trod_int Try.underlying3 h0
  cases e0
  obtain ⟨a1, e1, -, w1⟩ := DataW.trod_int Try.underlying3 h1
  cases e1
  obtain ⟨a2, e2, -, w2⟩ := DataW.trod_int Try.underlying24 h2
  cases e2
  obtain ⟨a3, n3, k3, rfl, z3, w3⟩ : ∃ a n k, c3 = .slice a n k ∧ ∃ zs, IsRow .u8 W a n k zs := by
    rcases open_ints Try.underlying25 Try.underlying5 (by kernel_rfl) h3 with ⟨hcs, _⟩ | ⟨x, l, c, zs, hcs, _, hl, hm, hz, _, hcell, hwz⟩
    · cases hcs; exact ⟨_, _, _, rfl, [], .inl ⟨rfl, rfl, rfl, rfl⟩⟩
    · cases hcs; exact ⟨_, _, _, rfl, zs, .inr ⟨_, rfl, hl, hm, by simpa using hz, hcell, hwz⟩⟩
  have s3 : n3 * 1 ≤ 140737488351232 := Go.Proofs.YtbenimfjhcbplaaW.PrintWords.sized_ints hs_ (j := 3) (t := 25) rfl rfl Try.underlying25 Try.underlying5 (by kernel_rfl) (by kernel_rfl) ⟨m, h3⟩
  exact ⟨_, _, _, _, _, _, z3, rfl, w0, w1, w2, w3, s3⟩
set_option maxRecDepth 100000 in
theorem lifted (os : Os) (started : os.Started) (H : Type) (enc : TypeId × Value → H) :
    ReturnsInHanded {} Try.checked os 11 .any (Rows.icmpTellsSpec.pre6 enc Try.prog Try.f11 Rows.icmpTellsRow.domain false) (Rows.icmpTellsSpec.post enc Try.prog Try.f11 false true false false) := by
  refine returnsInHanded_of_change_sized (C := Try.checked) own started (by kernel_rfl) Try.func11
    (ChangeSpec.witness6 (enc := enc) (C := Try.checked) false ⟨#[], #[.slice none 0 0, .agg #[.int .i64 0, .int .i64 0, .int .u32 0, .slice none 0 0], .agg #[.int .i64 0, .int .i64 0, .int .u32 0, .slice none 0 0], .int .i64 0], []⟩ 8 (by kernel_rfl) (by kernel_rfl) (by kernel_rfl) (by kernel_rfl)) ?_
  intro W base args ds gs before hval0 hW hcnd hsz0 _
  have hsz : (DataW.weightsEach Try.prog (Try.f11.params.toList ++ Rows.icmpTellsSpec.plain.varTypes Try.prog) (ds ++ gs)).all (· ≤ reachBytes) = true := hsz0
  have hval : ∀ (j : Nat) t v, Try.f11.params[j]? = some t → args[j]? = some v → Value.okWide Try.prog W .any base t v := hval0
  have hW' := hW
  obtain ⟨p, q, hA0, hV, rfl, hfz, hnd⟩ := hW
  have hA : DataW.TrodAll enc Try.prog W 0 (fun _ => true) true Try.f11.params.toList args.toList ds p := hA0
  rw [Try.params11] at hA hval hsz
  obtain ⟨v0, vs0, d0, ds0, p0, q0, hargs, rfl, rfl, h0, r0⟩ := trodAll_cons hA
  obtain ⟨v1, vs1, d1, ds1, p1, q1, rfl, rfl, rfl, h1, r1⟩ := trodAll_cons r0
  obtain ⟨v2, vs2, d2, ds2, p2, q2, rfl, rfl, rfl, h2, r2⟩ := trodAll_cons r1
  obtain ⟨v3, vs3, d3, ds3, p3, q3, rfl, rfl, rfl, h3, r3⟩ := trodAll_cons r2
  obtain ⟨rfl, rfl, rfl⟩ := trodAll_nil r3
  obtain rfl : args = #[v0, v1, v2, v3] := by cases args; simp_all
  obtain ⟨rfl, rfl⟩ := trodVars_none hV
  obtain ⟨a0, len0, cap0, rfl⟩ := okWide_slice Try.underlying25 (hval 0 25 v0 rfl rfl)
  have k0 := h0
  have lt0 : ∀ x ∈ p0, x.block < W.heap.size := by obtain ⟨m, hm⟩ := k0; exact DataW.trod_lt m _ _ _ hm
  obtain ⟨z0, w0⟩ : ∃ zs, IsRow .u8 W a0 len0 cap0 zs := by
    obtain ⟨fuel, hf⟩ := h0
    rcases open_ints Try.underlying25 Try.underlying5 (by kernel_rfl) hf with ⟨hcs, _⟩ | ⟨x, l, c, zs, hcs, _, hl, hm, hz, _, hcell, hwz⟩
    · simp [Value.cells] at hcs
      obtain ⟨rfl, rfl, rfl⟩ := hcs
      exact ⟨[], .inl ⟨rfl, rfl, rfl, rfl⟩⟩
    · simp [Value.cells] at hcs
      obtain ⟨rfl, rfl, rfl⟩ := hcs
      exact ⟨zs, .inr ⟨_, rfl, hl, hm, by simpa using hz, hcell, hwz⟩⟩
  have y0 : len0 * 1 ≤ 140737488351232 := Go.Proofs.YtbenimfjhcbplaaW.PrintWords.sized_ints hsz (j := 0) (t := 25) rfl rfl Try.underlying25 Try.underlying5 (by kernel_rfl) (by kernel_rfl) h0
  have k1 := h1
  have lt1 : ∀ x ∈ p1, x.block < W.heap.size := by obtain ⟨m, hm⟩ := k1; exact DataW.trod_lt m _ _ _ hm
  have ew1 : ∀ x_ ∈ d1.weights Try.prog 41, x_ ≤ reachBytes := fun x_ hx_ => by simpa using List.all_eq_true.1 hsz _ (DataW.weights_mem_each (j := 1) (t := 41) rfl rfl x_ hx_)
  obtain ⟨a1_0, a1_1, a1_2, a1_3, len1_3, cap1_3, z1_3, rfl, w1_0, w1_1, w1_2, w1_3, y1_3⟩ := open41 (hval 1 41 v1 rfl rfl) h1 ew1
  clear ew1
  have k2 := h2
  have lt2 : ∀ x ∈ p2, x.block < W.heap.size := by obtain ⟨m, hm⟩ := k2; exact DataW.trod_lt m _ _ _ hm
  have ew2 : ∀ x_ ∈ d2.weights Try.prog 41, x_ ≤ reachBytes := fun x_ hx_ => by simpa using List.all_eq_true.1 hsz _ (DataW.weights_mem_each (j := 2) (t := 41) rfl rfl x_ hx_)
  obtain ⟨a2_0, a2_1, a2_2, a2_3, len2_3, cap2_3, z2_3, rfl, w2_0, w2_1, w2_2, w2_3, y2_3⟩ := open41 (hval 2 41 v2 rfl rfl) h2 ew2
  clear ew2
  obtain ⟨a3, rfl, rfl, rfl, w3⟩ := open_int Try.underlying3 (hval 3 3 v3 rfl rfl) h3
  clear hA0 hval0 hsz0 hsz
  refine (QIcmpTells.castellanlaw7_IcmpTells.walk Pure.IcmpTells a0 len0 cap0 z0 a1_0 a1_1 a1_2 a1_3 len1_3 cap1_3 z1_3 a2_0 a2_1 a2_2 a2_3 len2_3 cap2_3 z2_3 a3 W w0 y0 w1_0 w1_1 w1_2 w1_3 y1_3 w2_0 w2_1 w2_2 w2_3 y2_3 w3).mono fun e W' ⟨he, bel⟩ => ?_
  subst he
  exact ⟨_, rfl, _, _, _, [], _, [], hW', trodAll_mk1 (shut_bool Try.underlying4 _), (trodAll_cons_mk (Below.trod laidOut (by kernel_rfl) (of_decide_eq_true (by kernel_rfl)) k0 bel lt0) (trodAll_cons_mk (Below.trod laidOut (by kernel_rfl) (of_decide_eq_true (by kernel_rfl)) k1 bel lt1) (trodAll_cons_mk (Below.trod laidOut (by kernel_rfl) (of_decide_eq_true (by kernel_rfl)) k2 bel lt2) (trodAll_cons_mk (shut_int Try.underlying3 w3) trodAll_mk0)))), rfl, bel.frame _, fun h => by cases h⟩
theorem over : Rows.icmpTellsRow.holds Try.pinned (OpenSpec.ofChange Rows.icmpTellsSpec) :=
  OpenClaim.holds_of_wide 11 Try.f11 rfl rfl rfl rfl rfl rfl rfl ⟨rfl, rfl, rfl, rfl, rfl⟩ rfl rfl rfl rfl rfl (by kernel_rfl) Try.func11 (by kernel_rfl)
    (of_decide_eq_true (by kernel_rfl)) (by unfold Func.isWrapper; first | (rw [if_pos (by decide +kernel)]; kernel_rfl) | (rw [if_neg (by decide +kernel)]; exact ⟨rfl, rfl⟩))
    (fun os started H enc _ => lifted os started H enc)
theorem proved : Rows.IcmpTellsSaid := over
#print axioms proved
end Go.Proofs.Ytbenimfjhcbplaa.icmpTells
namespace Go.Proofs.Ytbenimfjhcbplaa
/-- The row, under a short name, for the claim. -/
theorem icmpTells_holds : Rows.IcmpTellsSaid := icmpTells.proved
end Go.Proofs.Ytbenimfjhcbplaa
