-- written by myprint.py, a program of this session's over the kit's printer
import Derived.Test.YtbpnienknijogaaRows
import Derived.Test.YtbpnienknijogaaQUdpTellsx7
import Derived.Test.YtbpnienknijogaaPureUdpTells
import Derived.WalkKit
import Derived.ProofKit
import Derived.OpenShut
import Derived.ShutString
import Derived.ChangeOld
import Derived.Below
import Derived.SizedLaws
import Derived.Test.YtbpnienknijogaaWSized
namespace Go.Proofs.Ytbpnienknijogaa.udpTells
open Go.ChangeShapes Go.WideShapes Go.ChangeAt Go.RowKit
open Go.ChangeMaps (open_string shut_string)
set_option linter.unusedVariables false
theorem own : ownKnob Try.prog.godebug = none := by kernel_rfl
theorem laidOut : laidOutB Try.prog = true := by kernel_rfl
def IsRow (k : IntKind) (w : World) (a : Option Addr) (len cap : Nat) (zs : List Int) : Prop :=
  (a = none ∧ len = 0 ∧ cap = 0 ∧ zs = []) ∨
  ∃ x, a = some x ∧ len ≤ cap ∧ cap ≤ maxLen ∧ zs.length = cap ∧ (∀ i, i < zs.length → w.cell? (x.add i) = some (.int k (zs.getD i 0))) ∧ ∀ n ∈ zs, (Lit.int k n).wf = true
set_option maxHeartbeats 1000000 in
theorem open26 {H : Type} {enc : TypeId × Value → H} {W : World} {base : Nat} {v : Value} {d : DataW H} {p : List MemPlace} (hv : Value.okWide Try.prog W .any base 26 v) (hk : DataW.Trod enc Try.prog W 0 (fun _ => true) true 26 v d p) (hw : ∀ x_ ∈ d.weights Try.prog 26, x_ ≤ reachBytes) :
    ∃ (a0 : Int) (a1 : Int) (a2 : Option Addr) (n2 c2 : Nat) (z2 : List Int), v = .agg #[.int .i64 a0, .int .i64 a1, .slice a2 n2 c2] ∧ (Lit.int .i64 a0).wf = true ∧ (Lit.int .i64 a1).wf = true ∧ IsRow .u8 W a2 n2 c2 z2 ∧ n2 * 1 ≤ 140737488351232 := by
  obtain ⟨cs, rfl, hsz⟩ := okWide_struct Try.underlying26 hv
  obtain ⟨fuel, hf⟩ := hk
  obtain ⟨ys, m, _, hx, _, hl, hf⟩ := DataW.trod_struct Try.underlying26 hf
  have hsz2 : cs.size = 3 := hsz.trans (by kernel_rfl)
  obtain ⟨l⟩ := cs
  match l, hsz2 with
  | [c0, c1, c2], _ =>
  match ys, hl with
  | [y0, y1, y2], _ =>
  have hc3_ : Try.prog.cellsOf 3 = 1 := by kernel_rfl
  have hc24_ : Try.prog.cellsOf 24 = 1 := by kernel_rfl
  obtain ⟨rfl, -⟩ := Prod.mk.inj hx
  have hs_ : (DataW.weightsEach Try.prog [3, 3, 24] [y0.1, y1.1, y2.1]).all (· ≤ reachBytes) = true := by
    refine List.all_eq_true.2 fun x_ hx_ => ?_
    have h_ := hw x_ (by simp only [DataW.weights, Try.underlying26]; exact hx_)
    simpa using h_
  clear hw hx hv hsz hsz2
  have h0 := hf 0 _ rfl
  simp [hc3_, Value.cells] at h0
  have h1 := hf 1 _ rfl
  simp [hc3_, Value.cells] at h1
  have h2 := hf 2 _ rfl
  simp [hc24_, Value.cells] at h2
  obtain ⟨a0, e0, -, w0⟩ := DataW.trod_int Try.underlying3 h0
  cases e0
  obtain ⟨a1, e1, -, w1⟩ := DataW.trod_int Try.underlying3 h1
  cases e1
  obtain ⟨a2, n2, k2, rfl, z2, w2⟩ : ∃ a n k, c2 = .slice a n k ∧ ∃ zs, IsRow .u8 W a n k zs := by
    rcases open_ints Try.underlying24 Try.underlying5 (by kernel_rfl) h2 with ⟨hcs, _⟩ | ⟨x, l, c, zs, hcs, _, hl, hm, hz, _, hcell, hwz⟩
    · cases hcs; exact ⟨_, _, _, rfl, [], .inl ⟨rfl, rfl, rfl, rfl⟩⟩
    · cases hcs; exact ⟨_, _, _, rfl, zs, .inr ⟨_, rfl, hl, hm, by simpa using hz, hcell, hwz⟩⟩
  have s2 : n2 * 1 ≤ 140737488351232 := Go.Proofs.YtbpnienknijogaaW.PrintWords.sized_ints hs_ (j := 2) (t := 24) rfl rfl Try.underlying24 Try.underlying5 (by kernel_rfl) (by kernel_rfl) ⟨m, h2⟩
  exact ⟨_, _, _, _, _, z2, rfl, w0, w1, w2, s2⟩
set_option maxRecDepth 100000 in
theorem lifted (os : Os) (started : os.Started) (H : Type) (enc : TypeId × Value → H) :
    ReturnsInHanded {} Try.checked os 6 .any (Rows.udpTellsSpec.pre6 enc Try.prog Try.f6 Rows.udpTellsRow.domain false) (Rows.udpTellsSpec.post enc Try.prog Try.f6 false true false false) := by
  refine returnsInHanded_of_change_sized (C := Try.checked) own started (by kernel_rfl) Try.func6
    (ChangeSpec.witness6 (enc := enc) (C := Try.checked) false ⟨#[], #[.slice none 0 0, .int .u32 0, .int .u32 0, .agg #[.int .i64 0, .int .i64 0, .slice none 0 0], .agg #[.int .i64 0, .int .i64 0, .slice none 0 0]], []⟩ 8 (by kernel_rfl) (by kernel_rfl) (by kernel_rfl) (by kernel_rfl)) ?_
  intro W base args ds gs before hval0 hW hcnd hsz0 _
  have hsz : (DataW.weightsEach Try.prog (Try.f6.params.toList ++ Rows.udpTellsSpec.plain.varTypes Try.prog) (ds ++ gs)).all (· ≤ reachBytes) = true := hsz0
  have hval : ∀ (j : Nat) t v, Try.f6.params[j]? = some t → args[j]? = some v → Value.okWide Try.prog W .any base t v := hval0
  have hW' := hW
  obtain ⟨p, q, hA0, hV, rfl, hfz, hnd⟩ := hW
  have hA : DataW.TrodAll enc Try.prog W 0 (fun _ => true) true Try.f6.params.toList args.toList ds p := hA0
  rw [Try.params6] at hA hval hsz
  obtain ⟨v0, vs0, d0, ds0, p0, q0, hargs, rfl, rfl, h0, r0⟩ := trodAll_cons hA
  obtain ⟨v1, vs1, d1, ds1, p1, q1, rfl, rfl, rfl, h1, r1⟩ := trodAll_cons r0
  obtain ⟨v2, vs2, d2, ds2, p2, q2, rfl, rfl, rfl, h2, r2⟩ := trodAll_cons r1
  obtain ⟨v3, vs3, d3, ds3, p3, q3, rfl, rfl, rfl, h3, r3⟩ := trodAll_cons r2
  obtain ⟨v4, vs4, d4, ds4, p4, q4, rfl, rfl, rfl, h4, r4⟩ := trodAll_cons r3
  obtain ⟨rfl, rfl, rfl⟩ := trodAll_nil r4
  obtain rfl : args = #[v0, v1, v2, v3, v4] := by cases args; simp_all
  obtain ⟨rfl, rfl⟩ := trodVars_none hV
  obtain ⟨a0, len0, cap0, rfl⟩ := okWide_slice Try.underlying24 (hval 0 24 v0 rfl rfl)
  have k0 := h0
  have lt0 : ∀ x ∈ p0, x.block < W.heap.size := by obtain ⟨m, hm⟩ := k0; exact DataW.trod_lt m _ _ _ hm
  obtain ⟨z0, w0⟩ : ∃ zs, IsRow .u8 W a0 len0 cap0 zs := by
    obtain ⟨fuel, hf⟩ := h0
    rcases open_ints Try.underlying24 Try.underlying5 (by kernel_rfl) hf with ⟨hcs, _⟩ | ⟨x, l, c, zs, hcs, _, hl, hm, hz, _, hcell, hwz⟩
    · simp [Value.cells] at hcs
      obtain ⟨rfl, rfl, rfl⟩ := hcs
      exact ⟨[], .inl ⟨rfl, rfl, rfl, rfl⟩⟩
    · simp [Value.cells] at hcs
      obtain ⟨rfl, rfl, rfl⟩ := hcs
      exact ⟨zs, .inr ⟨_, rfl, hl, hm, by simpa using hz, hcell, hwz⟩⟩
  have y0 : len0 * 1 ≤ 140737488351232 := Go.Proofs.YtbpnienknijogaaW.PrintWords.sized_ints hsz (j := 0) (t := 24) rfl rfl Try.underlying24 Try.underlying5 (by kernel_rfl) (by kernel_rfl) h0
  obtain ⟨a1, rfl, rfl, rfl, w1⟩ := open_int Try.underlying22 (hval 1 22 v1 rfl rfl) h1
  obtain ⟨a2, rfl, rfl, rfl, w2⟩ := open_int Try.underlying22 (hval 2 22 v2 rfl rfl) h2
  have k3 := h3
  have lt3 : ∀ x ∈ p3, x.block < W.heap.size := by obtain ⟨m, hm⟩ := k3; exact DataW.trod_lt m _ _ _ hm
  have ew3 : ∀ x_ ∈ d3.weights Try.prog 26, x_ ≤ reachBytes := fun x_ hx_ => by simpa using List.all_eq_true.1 hsz _ (DataW.weights_mem_each (j := 3) (t := 26) rfl rfl x_ hx_)
  obtain ⟨a3_0, a3_1, a3_2, len3_2, cap3_2, z3_2, rfl, w3_0, w3_1, w3_2, y3_2⟩ := open26 (hval 3 26 v3 rfl rfl) h3 ew3
  clear ew3
  have k4 := h4
  have lt4 : ∀ x ∈ p4, x.block < W.heap.size := by obtain ⟨m, hm⟩ := k4; exact DataW.trod_lt m _ _ _ hm
  have ew4 : ∀ x_ ∈ d4.weights Try.prog 26, x_ ≤ reachBytes := fun x_ hx_ => by simpa using List.all_eq_true.1 hsz _ (DataW.weights_mem_each (j := 4) (t := 26) rfl rfl x_ hx_)
  obtain ⟨a4_0, a4_1, a4_2, len4_2, cap4_2, z4_2, rfl, w4_0, w4_1, w4_2, y4_2⟩ := open26 (hval 4 26 v4 rfl rfl) h4 ew4
  clear ew4
  clear hA0 hval0 hsz0 hsz
  refine (QUdpTells.castellanlaw6_UdpTells.walk Pure.UdpTells a0 len0 cap0 z0 a1 a2 a3_0 a3_1 a3_2 len3_2 cap3_2 z3_2 a4_0 a4_1 a4_2 len4_2 cap4_2 z4_2 W w0 y0 w1 w2 w3_0 w3_1 w3_2 y3_2 w4_0 w4_1 w4_2 y4_2).mono fun e W' ⟨he, bel⟩ => ?_
  subst he
  exact ⟨_, rfl, _, _, _, [], _, [], hW', trodAll_mk1 (shut_bool Try.underlying4 _), (trodAll_cons_mk (Below.trod laidOut (by kernel_rfl) (of_decide_eq_true (by kernel_rfl)) k0 bel lt0) (trodAll_cons_mk (shut_int Try.underlying22 w1) (trodAll_cons_mk (shut_int Try.underlying22 w2) (trodAll_cons_mk (Below.trod laidOut (by kernel_rfl) (of_decide_eq_true (by kernel_rfl)) k3 bel lt3) (trodAll_cons_mk (Below.trod laidOut (by kernel_rfl) (of_decide_eq_true (by kernel_rfl)) k4 bel lt4) trodAll_mk0))))), rfl, bel.frame _, fun h => by cases h⟩
theorem over : Rows.udpTellsRow.holds Try.pinned (OpenSpec.ofChange Rows.udpTellsSpec) :=
  OpenClaim.holds_of_wide 6 Try.f6 rfl rfl rfl rfl rfl rfl rfl ⟨rfl, rfl, rfl, rfl, rfl⟩ rfl rfl rfl rfl rfl (by kernel_rfl) Try.func6 (by kernel_rfl)
    (of_decide_eq_true (by kernel_rfl)) (by unfold Func.isWrapper; first | (rw [if_pos (by decide +kernel)]; kernel_rfl) | (rw [if_neg (by decide +kernel)]; exact ⟨rfl, rfl⟩))
    (fun os started H enc _ => lifted os started H enc)
theorem proved : Rows.UdpTellsSaid := over
#print axioms proved
end Go.Proofs.Ytbpnienknijogaa.udpTells
namespace Go.Proofs.Ytbpnienknijogaa
/-- The row, under a short name, for the claim. -/
theorem udpTells_holds : Rows.UdpTellsSaid := udpTells.proved
end Go.Proofs.Ytbpnienknijogaa
