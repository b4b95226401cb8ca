/- a reset is never answered; a reset goes back to the sender. No condition besides the law's own guard. -/
import Derived.Test.YtbenimfjhcbplaaQTcpResetsx1
import Derived.Test.YtbenimfjhcbplaaBase
namespace Go.Proofs.Ytbenimfjhcbplaa.Pure
open Go.RowKit Go.Proofs.Ytbenimfjhcbplaa.QTcpResets Go.Proofs.YtbenimfjhcbplaaW.PrintWords Go.Proofs.YtbenimfjhcbplaaW.PrintLast Go.Proofs.YtbenimfjhcbplaaW.PrintMore Go.Proofs.Ytbenimfjhcbplaa.Base
open Go
set_option linter.unusedVariables false
set_option linter.unusedSimpArgs false

/-- what a reset counts -/
def tk (f n : Int) : Int := if Go.bits .and .i64 f 1 = 0 then (if Go.bits .and .i64 f 2 = 0 then n else (n + 1) % 4294967296) else ((if Go.bits .and .i64 f 2 = 0 then n else (n + 1) % 4294967296) + 1) % 4294967296
theorem treset_no (a b s k f w u : Int) (o d : List Int) (K : Nat) (h : Go.bits .and .i64 f 4 ≠ 0) : tcp_Reset.f K a b s k f w u o d = some (0, 0, 0, 0, 0, 0, 0, ([] : List Int), ([] : List Int), false) := by
  unfold tcp_Reset.f; rw [if_neg h]
theorem treset_ack (a b s k f w u : Int) (o d : List Int) (K : Nat) (h : Go.bits .and .i64 f 4 = 0) (h2 : Go.bits .and .i64 f 16 ≠ 0) : tcp_Reset.f K a b s k f w u o d = some (b, a, k, 0, 4, 0, 0, ([] : List Int), ([] : List Int), true) := by
  unfold tcp_Reset.f; rw [if_pos h, if_neg h2]
theorem treset_cnt (a b s k f w u : Int) (o d : List Int) (K : Nat) (hK : 3 ≤ K) (h : Go.bits .and .i64 f 4 = 0) (h2 : Go.bits .and .i64 f 16 = 0) :
    tcp_Reset.f K a b s k f w u o d = some (b, a, 0, tk f ((s + (d.length : Int)) % 4294967296), 20, 0, 0, ([] : List Int), ([] : List Int), true) := by
  obtain ⟨j, rfl⟩ : ∃ j, K = j + 3 := ⟨K - 3, by omega⟩
  unfold tcp_Reset.f
  rw [if_pos h, if_pos h2, ob]
  generalize (s + (d.length : Int)) % 4294967296 = n
  have e0 : wrap64 (0 + 1) = 1 := by unfold wrap64; omega
  have e1 : wrap64 (1 + 1) = 2 := by unfold wrap64; omega
  have r0 : rd ([2, 1] : List Int) 0 = 2 := rfl
  have r1 : rd ([2, 1] : List Int) 1 = 1 := rfl
  have l2 : ((([2, 1] : List Int).length : Nat) : Int) = 2 := rfl
  unfold tk
  simp only [tcp_Reset.l0, e0, e1, r0, r1, l2]
  by_cases c2 : Go.bits .and .i64 f 2 = 0 <;> by_cases c1 : Go.bits .and .i64 f 1 = 0 <;> simp [c1, c2]
theorem tknown (K : Nat) (hK : 3 ≤ K) : castellanlaw5_known.f K = some true := by
  unfold castellanlaw5_known.f
  rw [treset_cnt 1 2 5 0 2 0 0 [] [] K hK rfl rfl, ob]
  rfl

theorem TcpResets : castellanlaw5_TcpResets.Pure := by
  intro a b s k f w u o d ha hb hs hk hf hw hu h1 h2 h3 h4 h5 h6
  refine ⟨3, ?_⟩
  have hkn := tknown 3 (by omega)
  unfold castellanlaw5_TcpResets.f
  have hl : ∃ q, castellanlaw5_long.f a b s k f w u o d = some q := by unfold castellanlaw5_long.f; split <;> exact ⟨_, rfl⟩
  obtain ⟨q, hq⟩ := hl
  rw [hq, ob]
  by_cases cq : q = true
  · rw [if_pos cq]
  rw [if_neg cq]
  by_cases c4 : Go.bits .and .i64 f 4 = 0
  · by_cases c16 : Go.bits .and .i64 f 16 = 0
    · rw [treset_cnt a b s k f w u o d 3 (by omega) c4 c16, ob]
      dsimp only
      rw [treset_no b a _ _ 20 _ _ _ _ 3 (by decide), ob, if_pos rfl, if_neg (by decide), if_pos rfl, if_pos rfl, if_neg (by decide), if_pos (by rw [c16]; rfl), if_pos (by unfold wrap64; rfl), hkn]
      rfl
    · rw [treset_ack a b s k f w u o d 3 c4 c16, ob]
      dsimp only
      rw [treset_no b a _ _ 4 _ _ _ _ 3 (by decide), ob, if_pos rfl, if_neg (by decide), if_pos rfl, if_pos rfl, if_neg (by decide), if_pos (by rw [beq_eq_false_iff_ne.mpr c16]; rfl), if_pos (by unfold wrap64; rfl), hkn]
      rfl
  · rw [treset_no a b s k f w u o d 3 c4, ob]
    dsimp only
    rw [treset_cnt 0 0 0 0 0 0 0 [] [] 3 (by omega) rfl rfl, ob, if_neg (by decide), if_neg c4, hkn]
    rfl

end Go.Proofs.Ytbenimfjhcbplaa.Pure
