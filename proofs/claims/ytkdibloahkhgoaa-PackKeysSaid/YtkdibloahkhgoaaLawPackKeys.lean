import Derived.Test.YtkdibloahkhgoaaRows
import Derived.Test.YtkdibloahkhgoaaQPackKeysx7
import Derived.Test.YtkdibloahkhgoaaPurePackKeys
import Derived.WalkKit
import Derived.ProofKit
import Derived.OpenShut
import Derived.ShutString
import Derived.ChangeOld
import Derived.Below
import Derived.SizedLaws
namespace Go.Proofs.Ytkdibloahkhgoaa.packKeys
open Go.ChangeShapes Go.WideShapes Go.ChangeAt Go.RowKit
open Go.ChangeMaps (open_string shut_string)
open Go.Proofs.YtkdibloahkhgoaaW.PrintWords
set_option linter.unusedVariables false
/-- a row of bytes that is read -/
theorem open_row {H : Type} {enc : TypeId × Value → H} {W : World} {n : Nat} {c : Value} {y : DataW H × List MemPlace} (h : DataW.trod enc Try.prog W 0 (fun _ => true) true n 24 [c] = some y) :
    ∃ (A : Option Addr) (k : Nat) (l : List Int), c = .slice A l.length k ∧ l.length ≤ k ∧ Kd.C (Kd.int .u8) W A l.length l := by
  rcases open_ints Try.underlying24 Try.underlying5 (by kernel_rfl) h with ⟨hcs, _⟩ | ⟨a, len, cap, zs, hcs, _, hl, hm, hz, _, hcell, hwz⟩
  · injection hcs with hv _
    subst hv
    exact ⟨none, 0, [], rfl, Nat.le_refl _, Kd.C_nil _ _⟩
  · injection hcs with hv _
    have hz' : zs.length = cap := by simpa using hz
    obtain ⟨l, e1, hr, _, hw, hc⟩ := ReadsInt.ofRowC (k := .u8) (w := W) (a := some a) (len := len) (cap := cap) (zs := zs) (.inr ⟨a, rfl, hl, hm, hz', hcell, hwz⟩)
    subst e1
    exact ⟨some a, cap, l, hv, hc, Kd.C_of_reads (d := (0 : Int)) (h1 := fun _ => rfl) hr⟩
set_option maxHeartbeats 1000000 in
set_option maxRecDepth 100000 in
theorem open26 {H : Type} {enc : TypeId × Value → H} {W : World} {fuel : Nat} {cs : List Value} {x : DataW H × List MemPlace} (hf : DataW.trod enc Try.prog W 0 (fun _ => true) true fuel 26 cs = some x) (hlen : cs.length = 11) :
    ∃ (a0 a1 : Int) (a2 a3 : Bool) (a4 a5 a6 a7 a8 : Int) (A9 : Option Addr) (k9 : Nat) (l9 : List Int) (A10 : Option Addr) (k10 : Nat) (l10 : List Int), cs = [.int .i64 a0, .int .i64 a1, .bool a2, .bool a3, .int .i64 a4, .int .i64 a5, .int .i64 a6, .int .u32 a7, .int .u32 a8, .slice A9 l9.length k9, .slice A10 l10.length k10] ∧
      l9.length ≤ k9 ∧ Kd.C (Kd.int .u8) W A9 l9.length l9 ∧ l10.length ≤ k10 ∧ Kd.C (Kd.int .u8) W A10 l10.length l10 := by
  obtain ⟨ys, m, _, hx, _, hl, hf⟩ := DataW.trod_struct Try.underlying26 hf
  match cs, hlen with
  | [c0, c1, c2, c3, c4, c5, c6, c7, c8, c9, c10], _ =>
  match ys, hl with
  | [y0, y1, y2, y3, y4, y5, y6, y7, y8, y9, y10], _ =>
  have hc3_ : Try.prog.cellsOf 3 = 1 := by kernel_rfl
  have hc4_ : Try.prog.cellsOf 4 = 1 := by kernel_rfl
  have hc22_ : Try.prog.cellsOf 22 = 1 := by kernel_rfl
  have hc24_ : Try.prog.cellsOf 24 = 1 := by kernel_rfl
  have h0 := hf 0 _ rfl
  simp [hc3_] at h0
  have h1 := hf 1 _ rfl
  simp [hc3_] at h1
  have h2 := hf 2 _ rfl
  simp [hc4_] at h2
  have h3 := hf 3 _ rfl
  simp [hc4_] at h3
  have h4 := hf 4 _ rfl
  simp [hc3_] at h4
  have h5 := hf 5 _ rfl
  simp [hc3_] at h5
  have h6 := hf 6 _ rfl
  simp [hc3_] at h6
  have h7 := hf 7 _ rfl
  simp [hc22_] at h7
  have h8 := hf 8 _ rfl
  simp [hc22_] at h8
  have h9 := hf 9 _ rfl
  simp [hc24_] at h9
  have h10 := hf 10 _ rfl
  simp [hc24_] at h10
  obtain ⟨a0, e0, -, w0⟩ := DataW.trod_int Try.underlying3 h0
  cases e0
  obtain ⟨a1, e1, -, w1⟩ := DataW.trod_int Try.underlying3 h1
  cases e1
  obtain ⟨a2, e2, -⟩ := DataW.trod_bool Try.underlying4 h2
  cases e2
  obtain ⟨a3, e3, -⟩ := DataW.trod_bool Try.underlying4 h3
  cases e3
  obtain ⟨a4, e4, -, w4⟩ := DataW.trod_int Try.underlying3 h4
  cases e4
  obtain ⟨a5, e5, -, w5⟩ := DataW.trod_int Try.underlying3 h5
  cases e5
  obtain ⟨a6, e6, -, w6⟩ := DataW.trod_int Try.underlying3 h6
  cases e6
  obtain ⟨a7, e7, -, w7⟩ := DataW.trod_int Try.underlying22 h7
  cases e7
  obtain ⟨a8, e8, -, w8⟩ := DataW.trod_int Try.underlying22 h8
  cases e8
  obtain ⟨A9, k9, l9, rfl, i9, r9⟩ := open_row h9
  obtain ⟨A10, k10, l10, rfl, i10, r10⟩ := open_row h10
  exact ⟨_, _, _, _, _, _, _, _, _, _, _, _, _, _, _, rfl, i9, r9, i10, r10⟩
set_option maxRecDepth 100000 in
/-- a flow's five cells -/
theorem open35 {H : Type} {enc : TypeId × Value → H} {W : World} {fuel : Nat} {cs : List Value} {x : DataW H × List MemPlace} (hf : DataW.trod enc Try.prog W 0 (fun _ => true) true fuel 35 cs = some x) (hlen : cs.length = 5) :
    ∃ (a0 a1 a2 a3 a4 : Int), cs = [.int .i64 a0, .int .u32 a1, .int .u32 a2, .int .i64 a3, .int .i64 a4] := by
  obtain ⟨ys, m, _, hx, _, hl, hf⟩ := DataW.trod_struct Try.underlying35 hf
  match cs, hlen with
  | [c0, c1, c2, c3, c4], _ =>
  match ys, hl with
  | [y0, y1, y2, y3, y4], _ =>
  have hc3_ : Try.prog.cellsOf 3 = 1 := by kernel_rfl
  have hc22_ : Try.prog.cellsOf 22 = 1 := by kernel_rfl
  have h0 := hf 0 _ rfl
  simp [hc3_] at h0
  have h1 := hf 1 _ rfl
  simp [hc22_] at h1
  have h2 := hf 2 _ rfl
  simp [hc22_] at h2
  have h3 := hf 3 _ rfl
  simp [hc3_] at h3
  have h4 := hf 4 _ rfl
  simp [hc3_] at h4
  obtain ⟨a0, e0, -, w0⟩ := DataW.trod_int Try.underlying3 h0
  cases e0
  obtain ⟨a1, e1, -, w1⟩ := DataW.trod_int Try.underlying22 h1
  cases e1
  obtain ⟨a2, e2, -, w2⟩ := DataW.trod_int Try.underlying22 h2
  cases e2
  obtain ⟨a3, e3, -, w3⟩ := DataW.trod_int Try.underlying3 h3
  cases e3
  obtain ⟨a4, e4, -, w4⟩ := DataW.trod_int Try.underlying3 h4
  cases e4
  exact ⟨_, _, _, _, _, rfl⟩
/-- the numbers at an address -/
def num : Option Value → Int
  | some (.int _ n) => n
  | _ => 0
def kof (W : World) (a : Addr) : Int × Int × Int × Int × Int := (num (W.cell? (a.add 0)), num (W.cell? (a.add 1)), num (W.cell? (a.add 2)), num (W.cell? (a.add 3)), num (W.cell? (a.add 4)))
set_option maxRecDepth 100000 in
/-- a pointer to a flow -/
theorem open27 {H : Type} {enc : TypeId × Value → H} {W : World} {fuel : Nat} {c : Value} {x : DataW H × List MemPlace} (hf : DataW.trod enc Try.prog W 0 (fun _ => true) true fuel 27 [c] = some x) : ∃ i, c = .pointer i ∧ Pts (kof W) W i := by
  rcases DataW.trod_pointer Try.underlying27 hf with ⟨hcs, _⟩ | ⟨a, cs', y, n, _, hcs, _, hc, hy⟩
  · injection hcs with hv _
    subst hv
    exact ⟨none, rfl, fun a e => by cases e⟩
  · injection hcs with hv _
    subst hv
    obtain ⟨_, hl, hcell⟩ := World.cells?_some hc
    have h5 : Try.prog.cellsOf 35 = 5 := by kernel_rfl
    rw [h5] at hl hcell
    obtain ⟨b0, b1, b2, b3, b4, rfl⟩ := open35 hy hl
    have e0 : W.cell? (a.add 0) = some (.int .i64 b0) := hcell 0 (by omega)
    have e1 : W.cell? (a.add 1) = some (.int .u32 b1) := hcell 1 (by omega)
    have e2 : W.cell? (a.add 2) = some (.int .u32 b2) := hcell 2 (by omega)
    have e3 : W.cell? (a.add 3) = some (.int .i64 b3) := hcell 3 (by omega)
    have e4 : W.cell? (a.add 4) = some (.int .i64 b4) := hcell 4 (by omega)
    refine ⟨some a, rfl, fun a' e j v hv => ?_⟩
    injection e with e
    subst e
    simp only [kof, e0, e1, e2, e3, e4, num] at hv
    have hj : j < 5 := by have := (List.getElem?_eq_some_iff.1 hv).1; simpa using this
    rw [hcell j hj]
    exact hv
set_option maxHeartbeats 1000000 in
set_option maxRecDepth 100000 in
theorem open29 {H : Type} {enc : TypeId × Value → H} {W : World} {base : Nat} {v : Value} {d : DataW H} {p : List MemPlace} (hv : Value.okWide Try.prog W .any base 29 v) (hk : DataW.Trod enc Try.prog W 0 (fun _ => true) true 29 v d p) :
    ∃ (a0 a1 : Int) (a2 a3 : Bool) (a4 a5 a6 a7 a8 : Int) (A9 : Option Addr) (k9 : Nat) (l9 : List Int) (A10 : Option Addr) (k10 : Nat) (l10 : List Int) (a11 a12 a13 a14 a15 a16 : Int) (i : Option Addr), v = .agg #[.int .i64 a0, .int .i64 a1, .bool a2, .bool a3, .int .i64 a4, .int .i64 a5, .int .i64 a6, .int .u32 a7, .int .u32 a8, .slice A9 l9.length k9, .slice A10 l10.length k10, .int .i64 a11, .int .i64 a12, .int .i64 a13, .int .i64 a14, .int .i64 a15, .int .i64 a16, .pointer i] ∧
      l9.length ≤ k9 ∧ Kd.C (Kd.int .u8) W A9 l9.length l9 ∧ l10.length ≤ k10 ∧ Kd.C (Kd.int .u8) W A10 l10.length l10 ∧ Pts (kof W) W i := by
  obtain ⟨cs, rfl, hsz⟩ := okWide_struct Try.underlying29 hv
  obtain ⟨fuel, hf⟩ := hk
  obtain ⟨ys, m, _, hx, _, hl, hf⟩ := DataW.trod_struct Try.underlying29 hf
  have hsz2 : cs.size = 18 := hsz.trans (by kernel_rfl)
  obtain ⟨l⟩ := cs
  match l, hsz2 with
  | [c0, c1, c2, c3, c4, c5, c6, c7, c8, c9, c10, c11, c12, c13, c14, c15, c16, c17], _ =>
  match ys, hl with
  | [y0, y1, y2, y3, y4, y5, y6, y7], _ =>
  have hc3_ : Try.prog.cellsOf 3 = 1 := by kernel_rfl
  have hc26_ : Try.prog.cellsOf 26 = 11 := by kernel_rfl
  have hc27_ : Try.prog.cellsOf 27 = 1 := by kernel_rfl
  have h0 := hf 0 _ rfl
  simp [hc26_, Value.cells] at h0
  have h1 := hf 1 _ rfl
  simp [hc3_, Value.cells] at h1
  have h2 := hf 2 _ rfl
  simp [hc3_, Value.cells] at h2
  have h3 := hf 3 _ rfl
  simp [hc3_, Value.cells] at h3
  have h4 := hf 4 _ rfl
  simp [hc3_, Value.cells] at h4
  have h5 := hf 5 _ rfl
  simp [hc3_, Value.cells] at h5
  have h6 := hf 6 _ rfl
  simp [hc3_, Value.cells] at h6
  have h7 := hf 7 _ rfl
  simp [hc27_, Value.cells] at h7
  obtain ⟨a0, a1, a2, a3, a4, a5, a6, a7, a8, A9, k9, l9, A10, k10, l10, e, i9, r9, i10, r10⟩ := open26 h0 rfl
  cases e
  obtain ⟨a11, e1, -, w1⟩ := DataW.trod_int Try.underlying3 h1
  cases e1
  obtain ⟨a12, e2, -, w2⟩ := DataW.trod_int Try.underlying3 h2
  cases e2
  obtain ⟨a13, e3, -, w3⟩ := DataW.trod_int Try.underlying3 h3
  cases e3
  obtain ⟨a14, e4, -, w4⟩ := DataW.trod_int Try.underlying3 h4
  cases e4
  obtain ⟨a15, e5, -, w5⟩ := DataW.trod_int Try.underlying3 h5
  cases e5
  obtain ⟨a16, e6, -, w6⟩ := DataW.trod_int Try.underlying3 h6
  cases e6
  obtain ⟨i, rfl, hp⟩ := open27 h7
  exact ⟨_, _, _, _, _, _, _, _, _, _, _, _, _, _, _, _, _, _, _, _, _, _, rfl, i9, r9, i10, r10, hp⟩
theorem own : ownKnob Try.prog.godebug = none := by kernel_rfl
theorem laidOut : laidOutB Try.prog = true := by kernel_rfl
set_option maxRecDepth 100000 in
theorem lifted (os : Os) (started : os.Started) (H : Type) (enc : TypeId × Value → H) :
    ReturnsInHanded {} Try.checked os 4 .any (Rows.packKeysSpec.pre6 enc Try.prog Try.f4 Rows.packKeysRow.domain false) (Rows.packKeysSpec.post enc Try.prog Try.f4 false true false false) := by
  refine returnsInHanded_of_change_sized (C := Try.checked) own started (by kernel_rfl) Try.func4
    (ChangeSpec.witness6 (enc := enc) (C := Try.checked) false ⟨#[], #[.agg #[.int .i64 0, .int .i64 0, .bool false, .bool false, .int .i64 0, .int .i64 0, .int .i64 0, .int .u32 0, .int .u32 0, .slice none 0 0, .slice none 0 0, .int .i64 0, .int .i64 0, .int .i64 0, .int .i64 0, .int .i64 0, .int .i64 0, .pointer none], .agg #[.int .i64 0, .int .i64 0, .bool false, .bool false, .int .i64 0, .int .i64 0, .int .i64 0, .int .u32 0, .int .u32 0, .slice none 0 0, .slice none 0 0, .int .i64 0, .int .i64 0, .int .i64 0, .int .i64 0, .int .i64 0, .int .i64 0, .pointer none], .agg #[.int .i64 0, .int .u32 0, .int .u32 0, .int .i64 0, .int .i64 0]], []⟩ 8 (by kernel_rfl) (by kernel_rfl) (by kernel_rfl) (by kernel_rfl)) ?_
  intro W base args ds gs before hval0 hW hcnd hsz0 _
  have hval : ∀ (j : Nat) t v, Try.f4.params[j]? = some t → args[j]? = some v → Value.okWide Try.prog W .any base t v := hval0
  have hW' := hW
  obtain ⟨p, q, hA0, hV, rfl, hfz, hnd⟩ := hW
  have hA : DataW.TrodAll enc Try.prog W 0 (fun _ => true) true Try.f4.params.toList args.toList ds p := hA0
  rw [Try.params4] at hA hval
  obtain ⟨v0, vs0, d0, ds0, p0, q0, hargs, rfl, rfl, h0, r0⟩ := trodAll_cons hA
  obtain ⟨v1, vs1, d1, ds1, p1, q1, rfl, rfl, rfl, h1, r1⟩ := trodAll_cons r0
  obtain ⟨v2, vs2, d2, ds2, p2, q2, rfl, rfl, rfl, h2, r2⟩ := trodAll_cons r1
  obtain ⟨rfl, rfl, rfl⟩ := trodAll_nil r2
  obtain rfl : args = #[v0, v1, v2] := by cases args; simp_all
  obtain ⟨rfl, rfl⟩ := trodVars_none hV
  have lt0 : ∀ x ∈ p0, x.block < W.heap.size := by obtain ⟨m, hm⟩ := h0; exact DataW.trod_lt m _ _ _ hm
  have lt1 : ∀ x ∈ p1, x.block < W.heap.size := by obtain ⟨m, hm⟩ := h1; exact DataW.trod_lt m _ _ _ hm
  have lt2 : ∀ x ∈ p2, x.block < W.heap.size := by obtain ⟨m, hm⟩ := h2; exact DataW.trod_lt m _ _ _ hm
  obtain ⟨a0, a1, a2, a3, a4, a5, a6, a7, a8, A9, k9, l9, A10, k10, l10, a11, a12, a13, a14, a15, a16, i0, rfl, x9, y9, x10, y10, hp0⟩ := open29 (hval 0 29 v0 rfl rfl) h0
  obtain ⟨b0, b1, b2, b3, b4, b5, b6, b7, b8, B9, j9, m9, B10, j10, m10, b11, b12, b13, b14, b15, b16, i1, rfl, u9, z9, u10, z10, hp1⟩ := open29 (hval 1 29 v1 rfl rfl) h1
  obtain ⟨k0, k1, k2, k3, k4, rfl⟩ : ∃ k0 k1 k2 k3 k4 : Int, v2 = .agg #[.int .i64 k0, .int .u32 k1, .int .u32 k2, .int .i64 k3, .int .i64 k4] := by
    obtain ⟨cs, rfl, hsz⟩ := okWide_struct Try.underlying35 (hval 2 35 v2 rfl rfl)
    obtain ⟨fuel, hf⟩ := h2
    obtain ⟨l⟩ := cs
    obtain ⟨k0, k1, k2, k3, k4, e⟩ := open35 (cs := l) (by simpa [Value.cells] using hf) (hsz.trans (by kernel_rfl))
    subst e
    exact ⟨k0, k1, k2, k3, k4, rfl⟩
  clear hA0 hval0 hsz0
  obtain ⟨k, hpure⟩ := Pure.PackKeys (kof W) a0 a1 a4 a5 a6 a7 a8 a11 a12 a13 a14 a15 a16 a2 a3 l9 l10 i0 b0 b1 b4 b5 b6 b7 b8 b11 b12 b13 b14 b15 b16 b2 b3 m9 m10 i1 k0 k1 k2 k3 k4
  refine (QPackKeys.castellanlaw8_PackKeys.calls (kof W) k a0 a1 a2 a3 a4 a5 a6 a7 a8 A9 k9 l9 A10 k10 l10 a11 a12 a13 a14 a15 a16 i0 b0 b1 b2 b3 b4 b5 b6 b7 b8 B9 j9 m9 B10 j10 m10 b11 b12 b13 b14 b15 b16 i1 k0 k1 k2 k3 k4 true W y9 x9 y10 x10 z9 u9 z10 u10 hp0 hp1 rfl hpure).mono fun e W' ⟨he, bel⟩ => ?_
  subst he
  exact ⟨_, rfl, _, _, _, [], _, [], hW', trodAll_mk1 (shut_bool Try.underlying4 _), (trodAll_cons_mk (Below.trod laidOut (by kernel_rfl) (of_decide_eq_true (by kernel_rfl)) h0 bel lt0) (trodAll_cons_mk (Below.trod laidOut (by kernel_rfl) (of_decide_eq_true (by kernel_rfl)) h1 bel lt1) (trodAll_cons_mk (Below.trod laidOut (by kernel_rfl) (of_decide_eq_true (by kernel_rfl)) h2 bel lt2) trodAll_mk0))), rfl, bel.frame _, fun h => by cases h⟩
theorem over : Rows.packKeysRow.holds Try.pinned (OpenSpec.ofChange Rows.packKeysSpec) :=
  OpenClaim.holds_of_wide 4 Try.f4 rfl rfl rfl rfl rfl rfl rfl ⟨rfl, rfl, rfl, rfl, rfl⟩ rfl rfl rfl rfl rfl (by kernel_rfl) Try.func4 (by kernel_rfl)
    (of_decide_eq_true (by kernel_rfl)) (by unfold Func.isWrapper; first | (rw [if_pos (by decide +kernel)]; kernel_rfl) | (rw [if_neg (by decide +kernel)]; exact ⟨rfl, rfl⟩))
    (fun os started H enc _ => lifted os started H enc)
theorem proved : Rows.PackKeysSaid := over
#print axioms proved
end Go.Proofs.Ytkdibloahkhgoaa.packKeys
namespace Go.Proofs.Ytkdibloahkhgoaa
/-- The row, under a short name, for the claim. -/
theorem packKeys_holds : Rows.PackKeysSaid := packKeys.proved
end Go.Proofs.Ytkdibloahkhgoaa
