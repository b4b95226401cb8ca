-- written by myprint.py, a program of this session's over the kit's printer
import Derived.Test.YtbenimfjhcbplaaRows
import Derived.Test.YtbenimfjhcbplaaQTcpCutx5
import Derived.Test.YtbenimfjhcbplaaPureTcpCut
import Derived.WalkKit
import Derived.ProofKit
import Derived.OpenShut
import Derived.ShutString
import Derived.ChangeOld
import Derived.Below
import Derived.SizedLaws
import Derived.Test.YtbenimfjhcbplaaWSized
namespace Go.Proofs.Ytbenimfjhcbplaa.tcpCut
open Go.ChangeShapes Go.WideShapes Go.ChangeAt Go.RowKit
open Go.ChangeMaps (open_string shut_string)
set_option linter.unusedVariables false
theorem own : ownKnob Try.prog.godebug = none := by kernel_rfl
theorem laidOut : laidOutB Try.prog = true := by kernel_rfl
def IsRow (k : IntKind) (w : World) (a : Option Addr) (len cap : Nat) (zs : List Int) : Prop :=
  (a = none ∧ len = 0 ∧ cap = 0 ∧ zs = []) ∨
  ∃ x, a = some x ∧ len ≤ cap ∧ cap ≤ maxLen ∧ zs.length = cap ∧ (∀ i, i < zs.length → w.cell? (x.add i) = some (.int k (zs.getD i 0))) ∧ ∀ n ∈ zs, (Lit.int k n).wf = true
set_option maxHeartbeats 1000000 in
theorem open27 {H : Type} {enc : TypeId × Value → H} {W : World} {base : Nat} {v : Value} {d : DataW H} {p : List MemPlace} (hv : Value.okWide Try.prog W .any base 27 v) (hk : DataW.Trod enc Try.prog W 0 (fun _ => true) true 27 v d p) (hw : ∀ x_ ∈ d.weights Try.prog 27, x_ ≤ reachBytes) :
    ∃ (a0 : Int) (a1 : Int) (a2 : Int) (a3 : Int) (a4 : Int) (a5 : Int) (a6 : Int) (a7 : Option Addr) (n7 c7 : Nat) (z7 : List Int) (a8 : Option Addr) (n8 c8 : Nat) (z8 : List Int), v = .agg #[.int .i64 a0, .int .i64 a1, .int .u32 a2, .int .u32 a3, .int .i64 a4, .int .i64 a5, .int .i64 a6, .slice a7 n7 c7, .slice a8 n8 c8] ∧ (Lit.int .i64 a0).wf = true ∧ (Lit.int .i64 a1).wf = true ∧ (Lit.int .u32 a2).wf = true ∧ (Lit.int .u32 a3).wf = true ∧ (Lit.int .i64 a4).wf = true ∧ (Lit.int .i64 a5).wf = true ∧ (Lit.int .i64 a6).wf = true ∧ IsRow .u8 W a7 n7 c7 z7 ∧ n7 * 1 ≤ 140737488351232 ∧ IsRow .u8 W a8 n8 c8 z8 ∧ n8 * 1 ≤ 140737488351232 := by
  obtain ⟨cs, rfl, hsz⟩ := okWide_struct Try.underlying27 hv
  obtain ⟨fuel, hf⟩ := hk
  obtain ⟨ys, m, _, hx, _, hl, hf⟩ := DataW.trod_struct Try.underlying27 hf
  have hsz2 : cs.size = 9 := hsz.trans (by kernel_rfl)
  obtain ⟨l⟩ := cs
  match l, hsz2 with
  | [c0, c1, c2, c3, c4, c5, c6, c7, c8], _ =>
  match ys, hl with
  | [y0, y1, y2, y3, y4, y5, y6, y7, y8], _ =>
  have hc3_ : Try.prog.cellsOf 3 = 1 := by kernel_rfl
  have hc24_ : Try.prog.cellsOf 24 = 1 := by kernel_rfl
  have hc25_ : Try.prog.cellsOf 25 = 1 := by kernel_rfl
  obtain ⟨rfl, -⟩ := Prod.mk.inj hx
  have hs_ : (DataW.weightsEach Try.prog [3, 3, 24, 24, 3, 3, 3, 25, 25] [y0.1, y1.1, y2.1, y3.1, y4.1, y5.1, y6.1, y7.1, y8.1]).all (· ≤ reachBytes) = true := by
    refine List.all_eq_true.2 fun x_ hx_ => ?_
    have h_ := hw x_ (by simp only [DataW.weights, Try.underlying27]; exact hx_)
    simpa using h_
  clear hw hx hv hsz hsz2
  have h0 := hf 0 _ rfl
  simp [hc3_, Value.cells] at h0
  have h1 := hf 1 _ rfl
  simp [hc3_, Value.cells] at h1
  have h2 := hf 2 _ rfl
  simp [hc24_, Value.cells] at h2
  have h3 := hf 3 _ rfl
  simp [hc24_, Value.cells] at h3
  have h4 := hf 4 _ rfl
  simp [hc3_, Value.cells] at h4
  have h5 := hf 5 _ rfl
  simp [hc3_, Value.cells] at h5
  have h6 := hf 6 _ rfl
  simp [hc3_, Value.cells] at h6
  have h7 := hf 7 _ rfl
  simp [hc25_, Value.cells] at h7
  have h8 := hf 8 _ rfl
  simp [hc25_, Value.cells] at h8
  obtain ⟨a0, e0, -, w0⟩ := DataW.trod_int Try.underlying3 h0
  cases e0
  obtain ⟨a1, e1, -, w1⟩ := DataW.trod_int Try.underlying3 h1
  cases e1
  obtain ⟨a2, e2, -, w2⟩ := DataW.trod_int Try.underlying24 h2
  cases e2
  obtain ⟨a3, e3, -, w3⟩ := DataW.trod_int Try.underlying24 h3
  cases e3
  obtain ⟨a4, e4, -, w4⟩ := DataW.trod_int Try.underlying3 h4
  cases e4
  obtain ⟨a5, e5, -, w5⟩ := DataW.trod_int Try.underlying3 h5
  cases e5
  obtain ⟨a6, e6, -, w6⟩ := DataW.trod_int Try.underlying3 h6
  cases e6
  obtain ⟨a7, n7, k7, rfl, z7, w7⟩ : ∃ a n k, c7 = .slice a n k ∧ ∃ zs, IsRow .u8 W a n k zs := by
    rcases open_ints Try.underlying25 Try.underlying5 (by kernel_rfl) h7 with ⟨hcs, _⟩ | ⟨x, l, c, zs, hcs, _, hl, hm, hz, _, hcell, hwz⟩
    · cases hcs; exact ⟨_, _, _, rfl, [], .inl ⟨rfl, rfl, rfl, rfl⟩⟩
    · cases hcs; exact ⟨_, _, _, rfl, zs, .inr ⟨_, rfl, hl, hm, by simpa using hz, hcell, hwz⟩⟩
  have s7 : n7 * 1 ≤ 140737488351232 := Go.Proofs.YtbenimfjhcbplaaW.PrintWords.sized_ints hs_ (j := 7) (t := 25) rfl rfl Try.underlying25 Try.underlying5 (by kernel_rfl) (by kernel_rfl) ⟨m, h7⟩
  obtain ⟨a8, n8, k8, rfl, z8, w8⟩ : ∃ a n k, c8 = .slice a n k ∧ ∃ zs, IsRow .u8 W a n k zs := by
    rcases open_ints Try.underlying25 Try.underlying5 (by kernel_rfl) h8 with ⟨hcs, _⟩ | ⟨x, l, c, zs, hcs, _, hl, hm, hz, _, hcell, hwz⟩
    · cases hcs; exact ⟨_, _, _, rfl, [], .inl ⟨rfl, rfl, rfl, rfl⟩⟩
    · cases hcs; exact ⟨_, _, _, rfl, zs, .inr ⟨_, rfl, hl, hm, by simpa using hz, hcell, hwz⟩⟩
  have s8 : n8 * 1 ≤ 140737488351232 := Go.Proofs.YtbenimfjhcbplaaW.PrintWords.sized_ints hs_ (j := 8) (t := 25) rfl rfl Try.underlying25 Try.underlying5 (by kernel_rfl) (by kernel_rfl) ⟨m, h8⟩
  exact ⟨_, _, _, _, _, _, _, _, _, _, z7, _, _, _, z8, rfl, w0, w1, w2, w3, w4, w5, w6, w7, s7, w8, s8⟩
set_option maxRecDepth 100000 in
theorem lifted (os : Os) (started : os.Started) (H : Type) (enc : TypeId × Value → H) :
    ReturnsInHanded {} Try.checked os 13 .any (Rows.tcpCutSpec.pre6 enc Try.prog Try.f13 Rows.tcpCutRow.domain false) (Rows.tcpCutSpec.post enc Try.prog Try.f13 false true false false) := by
  refine returnsInHanded_of_change_sized (C := Try.checked) own started (by kernel_rfl) Try.func13
    (ChangeSpec.witness6 (enc := enc) (C := Try.checked) false ⟨#[], #[.agg #[.int .i64 0, .int .i64 0, .int .u32 0, .int .u32 0, .int .i64 0, .int .i64 0, .int .i64 0, .slice none 0 0, .slice none 0 0], .int .i64 0], []⟩ 8 (by kernel_rfl) (by kernel_rfl) (by kernel_rfl) (by kernel_rfl)) ?_
  intro W base args ds gs before hval0 hW hcnd hsz0 _
  have hsz : (DataW.weightsEach Try.prog (Try.f13.params.toList ++ Rows.tcpCutSpec.plain.varTypes Try.prog) (ds ++ gs)).all (· ≤ reachBytes) = true := hsz0
  have hval : ∀ (j : Nat) t v, Try.f13.params[j]? = some t → args[j]? = some v → Value.okWide Try.prog W .any base t v := hval0
  have hW' := hW
  obtain ⟨p, q, hA0, hV, rfl, hfz, hnd⟩ := hW
  have hA : DataW.TrodAll enc Try.prog W 0 (fun _ => true) true Try.f13.params.toList args.toList ds p := hA0
  rw [Try.params13] at hA hval hsz
  obtain ⟨v0, vs0, d0, ds0, p0, q0, hargs, rfl, rfl, h0, r0⟩ := trodAll_cons hA
  obtain ⟨v1, vs1, d1, ds1, p1, q1, rfl, rfl, rfl, h1, r1⟩ := trodAll_cons r0
  obtain ⟨rfl, rfl, rfl⟩ := trodAll_nil r1
  obtain rfl : args = #[v0, v1] := by cases args; simp_all
  obtain ⟨rfl, rfl⟩ := trodVars_none hV
  have k0 := h0
  have lt0 : ∀ x ∈ p0, x.block < W.heap.size := by obtain ⟨m, hm⟩ := k0; exact DataW.trod_lt m _ _ _ hm
  have ew0 : ∀ x_ ∈ d0.weights Try.prog 27, x_ ≤ reachBytes := fun x_ hx_ => by simpa using List.all_eq_true.1 hsz _ (DataW.weights_mem_each (j := 0) (t := 27) rfl rfl x_ hx_)
  obtain ⟨a0_0, a0_1, a0_2, a0_3, a0_4, a0_5, a0_6, a0_7, len0_7, cap0_7, z0_7, a0_8, len0_8, cap0_8, z0_8, rfl, w0_0, w0_1, w0_2, w0_3, w0_4, w0_5, w0_6, w0_7, y0_7, w0_8, y0_8⟩ := open27 (hval 0 27 v0 rfl rfl) h0 ew0
  clear ew0
  obtain ⟨a1, rfl, rfl, rfl, w1⟩ := open_int Try.underlying3 (hval 1 3 v1 rfl rfl) h1
  clear hA0 hval0 hsz0 hsz
  refine (QTcpCut.castellanlaw5_TcpCut.walk Pure.TcpCut a0_0 a0_1 a0_2 a0_3 a0_4 a0_5 a0_6 a0_7 len0_7 cap0_7 z0_7 a0_8 len0_8 cap0_8 z0_8 a1 W w0_0 w0_1 w0_2 w0_3 w0_4 w0_5 w0_6 w0_7 y0_7 w0_8 y0_8 w1).mono fun e W' ⟨he, bel⟩ => ?_
  subst he
  exact ⟨_, rfl, _, _, _, [], _, [], hW', trodAll_mk1 (shut_bool Try.underlying4 _), (trodAll_cons_mk (Below.trod laidOut (by kernel_rfl) (of_decide_eq_true (by kernel_rfl)) k0 bel lt0) (trodAll_cons_mk (shut_int Try.underlying3 w1) trodAll_mk0)), rfl, bel.frame _, fun h => by cases h⟩
theorem over : Rows.tcpCutRow.holds Try.pinned (OpenSpec.ofChange Rows.tcpCutSpec) :=
  OpenClaim.holds_of_wide 13 Try.f13 rfl rfl rfl rfl rfl rfl rfl ⟨rfl, rfl, rfl, rfl, rfl⟩ rfl rfl rfl rfl rfl (by kernel_rfl) Try.func13 (by kernel_rfl)
    (of_decide_eq_true (by kernel_rfl)) (by unfold Func.isWrapper; first | (rw [if_pos (by decide +kernel)]; kernel_rfl) | (rw [if_neg (by decide +kernel)]; exact ⟨rfl, rfl⟩))
    (fun os started H enc _ => lifted os started H enc)
theorem proved : Rows.TcpCutSaid := over
#print axioms proved
end Go.Proofs.Ytbenimfjhcbplaa.tcpCut
namespace Go.Proofs.Ytbenimfjhcbplaa
/-- The row, under a short name, for the claim. -/
theorem tcpCut_holds : Rows.TcpCutSaid := tcpCut.proved
end Go.Proofs.Ytbenimfjhcbplaa
