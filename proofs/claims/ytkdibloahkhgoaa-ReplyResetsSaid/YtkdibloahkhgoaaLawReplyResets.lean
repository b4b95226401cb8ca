-- written by myprint.py, a program of this session's over the kit's printer
import Derived.Test.YtkdibloahkhgoaaRows
import Derived.Test.YtkdibloahkhgoaaQReplyResetsx13
import Derived.Test.YtkdibloahkhgoaaPureReplyResets
import Derived.WalkKit
import Derived.ProofKit
import Derived.OpenShut
import Derived.ShutString
import Derived.ChangeOld
import Derived.Below
import Derived.SizedLaws
import Derived.Test.YtkdibloahkhgoaaWSized
namespace Go.Proofs.Ytkdibloahkhgoaa.replyResets
open Go.ChangeShapes Go.WideShapes Go.ChangeAt Go.RowKit
open Go.ChangeMaps (open_string shut_string)
set_option linter.unusedVariables false
theorem own : ownKnob Try.prog.godebug = none := by kernel_rfl
theorem laidOut : laidOutB Try.prog = true := by kernel_rfl
def IsRow (k : IntKind) (w : World) (a : Option Addr) (len cap : Nat) (zs : List Int) : Prop :=
  (a = none ∧ len = 0 ∧ cap = 0 ∧ zs = []) ∨
  ∃ x, a = some x ∧ len ≤ cap ∧ cap ≤ maxLen ∧ zs.length = cap ∧ (∀ i, i < zs.length → w.cell? (x.add i) = some (.int k (zs.getD i 0))) ∧ ∀ n ∈ zs, (Lit.int k n).wf = true
set_option maxHeartbeats 1000000 in
set_option maxRecDepth 100000 in
theorem open59 {H : Type} {enc : TypeId × Value → H} {W : World} {base : Nat} {v : Value} {d : DataW H} {p : List MemPlace} (hv : Value.okWide Try.prog W .any base 59 v) (hk : DataW.Trod enc Try.prog W 0 (fun _ => true) true 59 v d p) (hw : ∀ x_ ∈ d.weights Try.prog 59, x_ ≤ reachBytes) :
    ∃ (a0 : Int) (a1 : Int) (a2 : Int) (a3 : Int) (a4 : Int) (a5 : Int) (a6 : Int) (a7 : Option Addr) (n7 c7 : Nat) (z7 : List Int) (a8 : Option Addr) (n8 c8 : Nat) (z8 : List Int), v = .agg #[.int .i64 a0, .int .i64 a1, .int .u32 a2, .int .u32 a3, .int .i64 a4, .int .i64 a5, .int .i64 a6, .slice a7 n7 c7, .slice a8 n8 c8] ∧ (Lit.int .i64 a0).wf = true ∧ (Lit.int .i64 a1).wf = true ∧ (Lit.int .u32 a2).wf = true ∧ (Lit.int .u32 a3).wf = true ∧ (Lit.int .i64 a4).wf = true ∧ (Lit.int .i64 a5).wf = true ∧ (Lit.int .i64 a6).wf = true ∧ IsRow .u8 W a7 n7 c7 z7 ∧ n7 * 1 ≤ 140737488351232 ∧ IsRow .u8 W a8 n8 c8 z8 ∧ n8 * 1 ≤ 140737488351232 := by
  obtain ⟨cs, rfl, hsz⟩ := okWide_struct Try.underlying59 hv
  obtain ⟨fuel, hf⟩ := hk
  obtain ⟨ys, m, _, hx, _, hl, hf⟩ := DataW.trod_struct Try.underlying59 hf
  have hsz2 : cs.size = 9 := hsz.trans (by kernel_rfl)
  obtain ⟨l⟩ := cs
  match l, hsz2 with
  | [c0, c1, c2, c3, c4, c5, c6, c7, c8], _ =>
  match ys, hl with
  | [y0, y1, y2, y3, y4, y5, y6, y7, y8], _ =>
  have hc3_ : Try.prog.cellsOf 3 = 1 := by kernel_rfl
  have hc22_ : Try.prog.cellsOf 22 = 1 := by kernel_rfl
  have hc24_ : Try.prog.cellsOf 24 = 1 := by kernel_rfl
  obtain ⟨rfl, -⟩ := Prod.mk.inj hx
  have hs_ : (DataW.weightsEach Try.prog [3, 3, 22, 22, 3, 3, 3, 24, 24] [y0.1, y1.1, y2.1, y3.1, y4.1, y5.1, y6.1, y7.1, y8.1]).all (· ≤ reachBytes) = true := by
    refine List.all_eq_true.2 fun x_ hx_ => ?_
    have h_ := hw x_ (by simp only [DataW.weights, Try.underlying59]; exact hx_)
    simpa using h_
  clear hw hx hv hsz hsz2
  have h0 := hf 0 _ rfl
  simp [hc3_, Value.cells] at h0
  have h1 := hf 1 _ rfl
  simp [hc3_, Value.cells] at h1
  have h2 := hf 2 _ rfl
  simp [hc22_, Value.cells] at h2
  have h3 := hf 3 _ rfl
  simp [hc22_, Value.cells] at h3
  have h4 := hf 4 _ rfl
  simp [hc3_, Value.cells] at h4
  have h5 := hf 5 _ rfl
  simp [hc3_, Value.cells] at h5
  have h6 := hf 6 _ rfl
  simp [hc3_, Value.cells] at h6
  have h7 := hf 7 _ rfl
  simp [hc24_, Value.cells] at h7
  have h8 := hf 8 _ rfl
  simp [hc24_, Value.cells] at h8
  obtain ⟨a0, e0, -, w0⟩ := DataW.trod_int Try.underlying3 h0
  cases e0
  obtain ⟨a1, e1, -, w1⟩ := DataW.trod_int Try.underlying3 h1
  cases e1
  obtain ⟨a2, e2, -, w2⟩ := DataW.trod_int Try.underlying22 h2
  cases e2
  obtain ⟨a3, e3, -, w3⟩ := DataW.trod_int Try.underlying22 h3
  cases e3
  obtain ⟨a4, e4, -, w4⟩ := DataW.trod_int Try.underlying3 h4
  cases e4
  obtain ⟨a5, e5, -, w5⟩ := DataW.trod_int Try.underlying3 h5
  cases e5
  obtain ⟨a6, e6, -, w6⟩ := DataW.trod_int Try.underlying3 h6
  cases e6
  obtain ⟨a7, n7, k7, rfl, z7, w7⟩ : ∃ a n k, c7 = .slice a n k ∧ ∃ zs, IsRow .u8 W a n k zs := by
    rcases open_ints Try.underlying24 Try.underlying5 (by kernel_rfl) h7 with ⟨hcs, _⟩ | ⟨x, l, c, zs, hcs, _, hl, hm, hz, _, hcell, hwz⟩
    · cases hcs; exact ⟨_, _, _, rfl, [], .inl ⟨rfl, rfl, rfl, rfl⟩⟩
    · cases hcs; exact ⟨_, _, _, rfl, zs, .inr ⟨_, rfl, hl, hm, by simpa using hz, hcell, hwz⟩⟩
  have s7 : n7 * 1 ≤ 140737488351232 := Go.Proofs.YtkdibloahkhgoaaW.PrintWords.sized_ints hs_ (j := 7) (t := 24) rfl rfl Try.underlying24 Try.underlying5 (by kernel_rfl) (by kernel_rfl) ⟨m, h7⟩
  obtain ⟨a8, n8, k8, rfl, z8, w8⟩ : ∃ a n k, c8 = .slice a n k ∧ ∃ zs, IsRow .u8 W a n k zs := by
    rcases open_ints Try.underlying24 Try.underlying5 (by kernel_rfl) h8 with ⟨hcs, _⟩ | ⟨x, l, c, zs, hcs, _, hl, hm, hz, _, hcell, hwz⟩
    · cases hcs; exact ⟨_, _, _, rfl, [], .inl ⟨rfl, rfl, rfl, rfl⟩⟩
    · cases hcs; exact ⟨_, _, _, rfl, zs, .inr ⟨_, rfl, hl, hm, by simpa using hz, hcell, hwz⟩⟩
  have s8 : n8 * 1 ≤ 140737488351232 := Go.Proofs.YtkdibloahkhgoaaW.PrintWords.sized_ints hs_ (j := 8) (t := 24) rfl rfl Try.underlying24 Try.underlying5 (by kernel_rfl) (by kernel_rfl) ⟨m, h8⟩
  exact ⟨_, _, _, _, _, _, _, _, _, _, z7, _, _, _, z8, rfl, w0, w1, w2, w3, w4, w5, w6, w7, s7, w8, s8⟩
set_option maxRecDepth 100000 in
theorem lifted (os : Os) (started : os.Started) (H : Type) (enc : TypeId × Value → H) :
    ReturnsInHanded {} Try.checked os 7 .any (Rows.replyResetsSpec.pre6 enc Try.prog Try.f7 Rows.replyResetsRow.domain false) (Rows.replyResetsSpec.post enc Try.prog Try.f7 false true false false) := by
  refine returnsInHanded_of_change_sized (C := Try.checked) own started (by kernel_rfl) Try.func7
    (ChangeSpec.witness6 (enc := enc) (C := Try.checked) false ⟨#[], #[.int .u32 0, .int .u32 0, .agg #[.int .i64 0, .int .i64 0, .int .u32 0, .int .u32 0, .int .i64 0, .int .i64 0, .int .i64 0, .slice none 0 0, .slice none 0 0]], []⟩ 8 (by kernel_rfl) (by kernel_rfl) (by kernel_rfl) (by kernel_rfl)) ?_
  intro W base args ds gs before hval0 hW hcnd hsz0 _
  have hsz : (DataW.weightsEach Try.prog (Try.f7.params.toList ++ Rows.replyResetsSpec.plain.varTypes Try.prog) (ds ++ gs)).all (· ≤ reachBytes) = true := hsz0
  have hval : ∀ (j : Nat) t v, Try.f7.params[j]? = some t → args[j]? = some v → Value.okWide Try.prog W .any base t v := hval0
  have hW' := hW
  obtain ⟨p, q, hA0, hV, rfl, hfz, hnd⟩ := hW
  have hA : DataW.TrodAll enc Try.prog W 0 (fun _ => true) true Try.f7.params.toList args.toList ds p := hA0
  rw [Try.params7] at hA hval hsz
  obtain ⟨v0, vs0, d0, ds0, p0, q0, hargs, rfl, rfl, h0, r0⟩ := trodAll_cons hA
  obtain ⟨v1, vs1, d1, ds1, p1, q1, rfl, rfl, rfl, h1, r1⟩ := trodAll_cons r0
  obtain ⟨v2, vs2, d2, ds2, p2, q2, rfl, rfl, rfl, h2, r2⟩ := trodAll_cons r1
  obtain ⟨rfl, rfl, rfl⟩ := trodAll_nil r2
  obtain rfl : args = #[v0, v1, v2] := by cases args; simp_all
  obtain ⟨rfl, rfl⟩ := trodVars_none hV
  obtain ⟨a0, rfl, rfl, rfl, w0⟩ := open_int Try.underlying22 (hval 0 22 v0 rfl rfl) h0
  obtain ⟨a1, rfl, rfl, rfl, w1⟩ := open_int Try.underlying22 (hval 1 22 v1 rfl rfl) h1
  have k2 := h2
  have lt2 : ∀ x ∈ p2, x.block < W.heap.size := by obtain ⟨m, hm⟩ := k2; exact DataW.trod_lt m _ _ _ hm
  have ew2 : ∀ x_ ∈ d2.weights Try.prog 59, x_ ≤ reachBytes := fun x_ hx_ => by simpa using List.all_eq_true.1 hsz _ (DataW.weights_mem_each (j := 2) (t := 59) rfl rfl x_ hx_)
  obtain ⟨a2_0, a2_1, a2_2, a2_3, a2_4, a2_5, a2_6, a2_7, len2_7, cap2_7, z2_7, a2_8, len2_8, cap2_8, z2_8, rfl, w2_0, w2_1, w2_2, w2_3, w2_4, w2_5, w2_6, w2_7, y2_7, w2_8, y2_8⟩ := open59 (hval 2 59 v2 rfl rfl) h2 ew2
  clear ew2
  clear hA0 hval0 hsz0 hsz
  refine (QReplyResets.castellanlaw19_ReplyResets.walk Pure.ReplyResets a0 a1 a2_0 a2_1 a2_2 a2_3 a2_4 a2_5 a2_6 a2_7 len2_7 cap2_7 z2_7 a2_8 len2_8 cap2_8 z2_8 W w0 w1 w2_0 w2_1 w2_2 w2_3 w2_4 w2_5 w2_6 w2_7 y2_7 w2_8 y2_8).mono fun e W' ⟨he, bel⟩ => ?_
  subst he
  exact ⟨_, rfl, _, _, _, [], _, [], hW', trodAll_mk1 (shut_bool Try.underlying4 _), (trodAll_cons_mk (shut_int Try.underlying22 w0) (trodAll_cons_mk (shut_int Try.underlying22 w1) (trodAll_cons_mk (Below.trod laidOut (by kernel_rfl) (of_decide_eq_true (by kernel_rfl)) k2 bel lt2) trodAll_mk0))), rfl, bel.frame _, fun h => by cases h⟩
theorem over : Rows.replyResetsRow.holds Try.pinned (OpenSpec.ofChange Rows.replyResetsSpec) :=
  OpenClaim.holds_of_wide 7 Try.f7 rfl rfl rfl rfl rfl rfl rfl ⟨rfl, rfl, rfl, rfl, rfl⟩ rfl rfl rfl rfl rfl (by kernel_rfl) Try.func7 (by kernel_rfl)
    (of_decide_eq_true (by kernel_rfl)) (by unfold Func.isWrapper; first | (rw [if_pos (by decide +kernel)]; kernel_rfl) | (rw [if_neg (by decide +kernel)]; exact ⟨rfl, rfl⟩))
    (fun os started H enc _ => lifted os started H enc)
theorem proved : Rows.ReplyResetsSaid := over
#print axioms proved
end Go.Proofs.Ytkdibloahkhgoaa.replyResets
namespace Go.Proofs.Ytkdibloahkhgoaa
/-- The row, under a short name, for the claim. -/
theorem replyResets_holds : Rows.ReplyResetsSaid := replyResets.proved
end Go.Proofs.Ytkdibloahkhgoaa
