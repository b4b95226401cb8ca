/- the Inner of an error about a packet is the key of this packet, whatever its checksum and length are. No condition besides the law's own guards. -/
import Derived.Test.YtkdibloahkhgoaaRows
import Derived.Test.YtkdibloahkhgoaaQPackInnerx99
import Derived.Test.YtkdibloahkhgoaaPurePackInner
import Derived.WalkKit
import Derived.ProofKit
import Derived.OpenShut
import Derived.ShutString
import Derived.ChangeOld
import Derived.Below
import Derived.SizedLaws
import Derived.Test.YtkdibloahkhgoaaWSized
namespace Go.Proofs.Ytkdibloahkhgoaa.packInner
open Go.ChangeShapes Go.WideShapes Go.ChangeAt Go.RowKit
open Go.ChangeMaps (open_string shut_string)
set_option linter.unusedVariables false
theorem own : ownKnob Try.prog.godebug = none := by kernel_rfl
theorem laidOut : laidOutB Try.prog = true := by kernel_rfl
def IsRow (k : IntKind) (w : World) (a : Option Addr) (len cap : Nat) (zs : List Int) : Prop :=
  (a = none ∧ len = 0 ∧ cap = 0 ∧ zs = []) ∨
  ∃ x, a = some x ∧ len ≤ cap ∧ cap ≤ maxLen ∧ zs.length = cap ∧ (∀ i, i < zs.length → w.cell? (x.add i) = some (.int k (zs.getD i 0))) ∧ ∀ n ∈ zs, (Lit.int k n).wf = true
set_option maxHeartbeats 1000000 in
set_option maxRecDepth 100000 in
theorem open26 {H : Type} {enc : TypeId × Value → H} {W : World} {base : Nat} {v : Value} {d : DataW H} {p : List MemPlace} (hv : Value.okWide Try.prog W .any base 26 v) (hk : DataW.Trod enc Try.prog W 0 (fun _ => true) true 26 v d p) (hw : ∀ x_ ∈ d.weights Try.prog 26, x_ ≤ reachBytes) :
    ∃ (a0 : Int) (a1 : Int) (a2 : Bool) (a3 : Bool) (a4 : Int) (a5 : Int) (a6 : Int) (a7 : Int) (a8 : Int) (a9 : Option Addr) (n9 c9 : Nat) (z9 : List Int) (a10 : Option Addr) (n10 c10 : Nat) (z10 : List Int), v = .agg #[.int .i64 a0, .int .i64 a1, .bool a2, .bool a3, .int .i64 a4, .int .i64 a5, .int .i64 a6, .int .u32 a7, .int .u32 a8, .slice a9 n9 c9, .slice a10 n10 c10] ∧ (Lit.int .i64 a0).wf = true ∧ (Lit.int .i64 a1).wf = true ∧ (Lit.int .i64 a4).wf = true ∧ (Lit.int .i64 a5).wf = true ∧ (Lit.int .i64 a6).wf = true ∧ (Lit.int .u32 a7).wf = true ∧ (Lit.int .u32 a8).wf = true ∧ IsRow .u8 W a9 n9 c9 z9 ∧ n9 * 1 ≤ 140737488351232 ∧ IsRow .u8 W a10 n10 c10 z10 ∧ n10 * 1 ≤ 140737488351232 := by
  obtain ⟨cs, rfl, hsz⟩ := okWide_struct Try.underlying26 hv
  obtain ⟨fuel, hf⟩ := hk
  obtain ⟨ys, m, _, hx, _, hl, hf⟩ := DataW.trod_struct Try.underlying26 hf
  have hsz2 : cs.size = 11 := hsz.trans (by kernel_rfl)
  obtain ⟨l⟩ := cs
  match l, hsz2 with
  | [c0, c1, c2, c3, c4, c5, c6, c7, c8, c9, c10], _ =>
  match ys, hl with
  | [y0, y1, y2, y3, y4, y5, y6, y7, y8, y9, y10], _ =>
  have hc3_ : Try.prog.cellsOf 3 = 1 := by kernel_rfl
  have hc4_ : Try.prog.cellsOf 4 = 1 := by kernel_rfl
  have hc22_ : Try.prog.cellsOf 22 = 1 := by kernel_rfl
  have hc24_ : Try.prog.cellsOf 24 = 1 := by kernel_rfl
  obtain ⟨rfl, -⟩ := Prod.mk.inj hx
  have hs_ : (DataW.weightsEach Try.prog [3, 3, 4, 4, 3, 3, 3, 22, 22, 24, 24] [y0.1, y1.1, y2.1, y3.1, y4.1, y5.1, y6.1, y7.1, y8.1, y9.1, y10.1]).all (· ≤ reachBytes) = true := by
    refine List.all_eq_true.2 fun x_ hx_ => ?_
    have h_ := hw x_ (by simp only [DataW.weights, Try.underlying26]; exact hx_)
    simpa using h_
  clear hw hx hv hsz hsz2
  have h0 := hf 0 _ rfl
  simp [hc3_, Value.cells] at h0
  have h1 := hf 1 _ rfl
  simp [hc3_, Value.cells] at h1
  have h2 := hf 2 _ rfl
  simp [hc4_, Value.cells] at h2
  have h3 := hf 3 _ rfl
  simp [hc4_, Value.cells] at h3
  have h4 := hf 4 _ rfl
  simp [hc3_, Value.cells] at h4
  have h5 := hf 5 _ rfl
  simp [hc3_, Value.cells] at h5
  have h6 := hf 6 _ rfl
  simp [hc3_, Value.cells] at h6
  have h7 := hf 7 _ rfl
  simp [hc22_, Value.cells] at h7
  have h8 := hf 8 _ rfl
  simp [hc22_, Value.cells] at h8
  have h9 := hf 9 _ rfl
  simp [hc24_, Value.cells] at h9
  have h10 := hf 10 _ rfl
  simp [hc24_, Value.cells] at h10
  obtain ⟨a0, e0, -, w0⟩ := DataW.trod_int Try.underlying3 h0
  cases e0
  obtain ⟨a1, e1, -, w1⟩ := DataW.trod_int Try.underlying3 h1
  cases e1
  obtain ⟨a2, e2, -⟩ := DataW.trod_bool Try.underlying4 h2
  cases e2
  obtain ⟨a3, e3, -⟩ := DataW.trod_bool Try.underlying4 h3
  cases e3
  obtain ⟨a4, e4, -, w4⟩ := DataW.trod_int Try.underlying3 h4
  cases e4
  obtain ⟨a5, e5, -, w5⟩ := DataW.trod_int Try.underlying3 h5
  cases e5
  obtain ⟨a6, e6, -, w6⟩ := DataW.trod_int Try.underlying3 h6
  cases e6
  obtain ⟨a7, e7, -, w7⟩ := DataW.trod_int Try.underlying22 h7
  cases e7
  obtain ⟨a8, e8, -, w8⟩ := DataW.trod_int Try.underlying22 h8
  cases e8
  obtain ⟨a9, n9, k9, rfl, z9, w9⟩ : ∃ a n k, c9 = .slice a n k ∧ ∃ zs, IsRow .u8 W a n k zs := by
    rcases open_ints Try.underlying24 Try.underlying5 (by kernel_rfl) h9 with ⟨hcs, _⟩ | ⟨x, l, c, zs, hcs, _, hl, hm, hz, _, hcell, hwz⟩
    · cases hcs; exact ⟨_, _, _, rfl, [], .inl ⟨rfl, rfl, rfl, rfl⟩⟩
    · cases hcs; exact ⟨_, _, _, rfl, zs, .inr ⟨_, rfl, hl, hm, by simpa using hz, hcell, hwz⟩⟩
  have s9 : n9 * 1 ≤ 140737488351232 := Go.Proofs.YtkdibloahkhgoaaW.PrintWords.sized_ints hs_ (j := 9) (t := 24) rfl rfl Try.underlying24 Try.underlying5 (by kernel_rfl) (by kernel_rfl) ⟨m, h9⟩
  obtain ⟨a10, n10, k10, rfl, z10, w10⟩ : ∃ a n k, c10 = .slice a n k ∧ ∃ zs, IsRow .u8 W a n k zs := by
    rcases open_ints Try.underlying24 Try.underlying5 (by kernel_rfl) h10 with ⟨hcs, _⟩ | ⟨x, l, c, zs, hcs, _, hl, hm, hz, _, hcell, hwz⟩
    · cases hcs; exact ⟨_, _, _, rfl, [], .inl ⟨rfl, rfl, rfl, rfl⟩⟩
    · cases hcs; exact ⟨_, _, _, rfl, zs, .inr ⟨_, rfl, hl, hm, by simpa using hz, hcell, hwz⟩⟩
  have s10 : n10 * 1 ≤ 140737488351232 := Go.Proofs.YtkdibloahkhgoaaW.PrintWords.sized_ints hs_ (j := 10) (t := 24) rfl rfl Try.underlying24 Try.underlying5 (by kernel_rfl) (by kernel_rfl) ⟨m, h10⟩
  exact ⟨_, _, _, _, _, _, _, _, _, _, _, _, z9, _, _, _, z10, rfl, w0, w1, w4, w5, w6, w7, w8, w9, s9, w10, s10⟩
set_option maxRecDepth 100000 in
theorem lifted (os : Os) (started : os.Started) (H : Type) (enc : TypeId × Value → H) :
    ReturnsInHanded {} Try.checked os 9 .any (Rows.packInnerSpec.pre6 enc Try.prog Try.f9 Rows.packInnerRow.domain false) (Rows.packInnerSpec.post enc Try.prog Try.f9 false true false false) := by
  refine returnsInHanded_of_change_sized (C := Try.checked) own started (by kernel_rfl) Try.func9
    (ChangeSpec.witness6 (enc := enc) (C := Try.checked) false ⟨#[], #[.agg #[.int .i64 0, .int .i64 0, .bool false, .bool false, .int .i64 0, .int .i64 0, .int .i64 0, .int .u32 0, .int .u32 0, .slice none 0 0, .slice none 0 0], .int .u32 0, .int .u32 0, .int .u8 0], []⟩ 8 (by kernel_rfl) (by kernel_rfl) (by kernel_rfl) (by kernel_rfl)) ?_
  intro W base args ds gs before hval0 hW hcnd hsz0 _
  have hsz : (DataW.weightsEach Try.prog (Try.f9.params.toList ++ Rows.packInnerSpec.plain.varTypes Try.prog) (ds ++ gs)).all (· ≤ reachBytes) = true := hsz0
  have hval : ∀ (j : Nat) t v, Try.f9.params[j]? = some t → args[j]? = some v → Value.okWide Try.prog W .any base t v := hval0
  have hW' := hW
  obtain ⟨p, q, hA0, hV, rfl, hfz, hnd⟩ := hW
  have hA : DataW.TrodAll enc Try.prog W 0 (fun _ => true) true Try.f9.params.toList args.toList ds p := hA0
  rw [Try.params9] at hA hval hsz
  obtain ⟨v0, vs0, d0, ds0, p0, q0, hargs, rfl, rfl, h0, r0⟩ := trodAll_cons hA
  obtain ⟨v1, vs1, d1, ds1, p1, q1, rfl, rfl, rfl, h1, r1⟩ := trodAll_cons r0
  obtain ⟨v2, vs2, d2, ds2, p2, q2, rfl, rfl, rfl, h2, r2⟩ := trodAll_cons r1
  obtain ⟨v3, vs3, d3, ds3, p3, q3, rfl, rfl, rfl, h3, r3⟩ := trodAll_cons r2
  obtain ⟨rfl, rfl, rfl⟩ := trodAll_nil r3
  obtain rfl : args = #[v0, v1, v2, v3] := by cases args; simp_all
  obtain ⟨rfl, rfl⟩ := trodVars_none hV
  have k0 := h0
  have lt0 : ∀ x ∈ p0, x.block < W.heap.size := by obtain ⟨m, hm⟩ := k0; exact DataW.trod_lt m _ _ _ hm
  have ew0 : ∀ x_ ∈ d0.weights Try.prog 26, x_ ≤ reachBytes := fun x_ hx_ => by simpa using List.all_eq_true.1 hsz _ (DataW.weights_mem_each (j := 0) (t := 26) rfl rfl x_ hx_)
  obtain ⟨a0_0, a0_1, a0_2, a0_3, a0_4, a0_5, a0_6, a0_7, a0_8, a0_9, len0_9, cap0_9, z0_9, a0_10, len0_10, cap0_10, z0_10, rfl, w0_0, w0_1, w0_4, w0_5, w0_6, w0_7, w0_8, w0_9, y0_9, w0_10, y0_10⟩ := open26 (hval 0 26 v0 rfl rfl) h0 ew0
  clear ew0
  obtain ⟨a1, rfl, rfl, rfl, w1⟩ := open_int Try.underlying22 (hval 1 22 v1 rfl rfl) h1
  obtain ⟨a2, rfl, rfl, rfl, w2⟩ := open_int Try.underlying22 (hval 2 22 v2 rfl rfl) h2
  obtain ⟨a3, rfl, rfl, rfl, w3⟩ := open_int Try.underlying5 (hval 3 5 v3 rfl rfl) h3
  clear hA0 hval0 hsz0 hsz
  refine (QPackInner.castellanlaw8_PackInner.walk Pure.PackInner a0_0 a0_1 a0_2 a0_3 a0_4 a0_5 a0_6 a0_7 a0_8 a0_9 len0_9 cap0_9 z0_9 a0_10 len0_10 cap0_10 z0_10 a1 a2 a3 W w0_0 w0_1 w0_4 w0_5 w0_6 w0_7 w0_8 w0_9 y0_9 w0_10 y0_10 w1 w2 w3).mono fun e W' ⟨he, bel⟩ => ?_
  subst he
  exact ⟨_, rfl, _, _, _, [], _, [], hW', trodAll_mk1 (shut_bool Try.underlying4 _), (trodAll_cons_mk (Below.trod laidOut (by kernel_rfl) (of_decide_eq_true (by kernel_rfl)) k0 bel lt0) (trodAll_cons_mk (shut_int Try.underlying22 w1) (trodAll_cons_mk (shut_int Try.underlying22 w2) (trodAll_cons_mk (shut_int Try.underlying5 w3) trodAll_mk0)))), rfl, bel.frame _, fun h => by cases h⟩
theorem over : Rows.packInnerRow.holds Try.pinned (OpenSpec.ofChange Rows.packInnerSpec) :=
  OpenClaim.holds_of_wide 9 Try.f9 rfl rfl rfl rfl rfl rfl rfl ⟨rfl, rfl, rfl, rfl, rfl⟩ rfl rfl rfl rfl rfl (by kernel_rfl) Try.func9 (by kernel_rfl)
    (of_decide_eq_true (by kernel_rfl)) (by unfold Func.isWrapper; first | (rw [if_pos (by decide +kernel)]; kernel_rfl) | (rw [if_neg (by decide +kernel)]; exact ⟨rfl, rfl⟩))
    (fun os started H enc _ => lifted os started H enc)
theorem proved : Rows.PackInnerSaid := over
#print axioms proved
end Go.Proofs.Ytkdibloahkhgoaa.packInner
namespace Go.Proofs.Ytkdibloahkhgoaa
/-- The row, under a short name, for the claim. -/
theorem packInner_holds : Rows.PackInnerSaid := packInner.proved
end Go.Proofs.Ytkdibloahkhgoaa
